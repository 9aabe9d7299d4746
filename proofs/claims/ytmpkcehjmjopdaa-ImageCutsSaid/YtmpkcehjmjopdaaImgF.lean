import Derived.Test.YtmpkcehjmjopdaaImgE
namespace Go.Proofs.Ytmpkcehjmjopdaa
open Go.RowKit

/-- a new disk -/
def dkNew (n : Nat) : Dk := ⟨List.replicate n zeros256, 0, [], 0, -1, false⟩
theorem madeCells_all (z : Array Value) (v : Value) (h1 : z.size = 256) (hz : ∀ k, k < 256 → z[k]! = v) (n : Nat) : (madeCells z n).toList = List.replicate n v := by
  rw [List.eq_replicate_iff]
  refine ⟨by simp [madeCells], fun b hb => ?_⟩
  simp only [madeCells, Array.toList_map, List.mem_map] at hb
  obtain ⟨k, _, rfl⟩ := hb
  rw [h1]
  exact hz _ (Nat.mod_lt _ (by decide))
theorem bcells_zero : bcells zeros256 = List.replicate 256 (.int .u8 0) := by
  unfold bcells zeros256
  rw [List.map_replicate]; rfl
theorem bang_all (l : List Value) (v : Value) (n k : Nat) (hl : l = List.replicate n v) (hk : k < n) : l.toArray[k]! = v := by
  subst hl
  rw [getElem!_pos _ _ (by simpa using hk), List.getElem_toArray, List.getElem_replicate]
theorem madeCells_flat (n : Nat) : madeCells (bcells zeros256).toArray (n * 256) = (dcells (List.replicate n zeros256)).toArray := by
  apply Array.ext'
  rw [madeCells_all _ (.int .u8 0) (by rw [List.size_toArray, bcells_length, zeros256_length]) (fun k hk => bang_all _ _ 256 k bcells_zero hk)]
  symm
  show dcells _ = _
  rw [List.eq_replicate_iff]
  refine ⟨by rw [dcells_length (by intro s hs; rw [List.eq_of_mem_replicate hs]; exact zeros256_length), List.length_replicate], fun b hb => ?_⟩
  simp only [dcells, List.mem_flatMap] at hb
  obtain ⟨s, hs, hb⟩ := hb
  rw [List.eq_of_mem_replicate hs, bcells_zero] at hb
  exact List.eq_of_mem_replicate hb
theorem run_ms82 (n : Nat) (hn : n ≤ 16384) (w : World) : (msV 82 (.int .i64 n) (.int .i64 n)).run Try.prog w = .ok (.slice (some ⟨w.heap.size, 0, none⟩) n n) (w.alloc (.cells (dcells (List.replicate n zeros256)).toArray 89)) := by
  obtain ⟨i, hi, hz, hs, hb⟩ := info_parts info89
  have h := run_make w 82 89 i _ Try.underlying82 hi hz .i64 .i64 n n (by omega) (by omega) (by rw [hb]; omega) (by omega)
  rw [hs, Int.toNat_natCast] at h
  have e : madeCells (Value.cells (.agg (bcells zeros256).toArray)) (n * 256) = (dcells (List.replicate n zeros256)).toArray := madeCells_flat n
  rw [e] at h
  exact h
theorem run_bd86 (gd n : Nat) (w : World) : (bdV 86 #[(0, .slice (some ⟨gd, 0, none⟩) n n), (3, .int .i64 (-1))]).run Try.prog w = .ok (.agg (dkCells n gd 0 (.slice none 0 0) 0 (-1) false)) w := run_build w 86 _ _ (by kernel_rfl)
theorem dkAt_new (w : World) (n : Nat) (h0 : 0 < n) (hn : n ≤ 16384) :
    DkAt ((w.alloc (.cells (dcells (List.replicate n zeros256)).toArray 89)).alloc (.cells (dkCells n w.heap.size 0 (.slice none 0 0) 0 (-1) false) 86)) w.heap.size (w.heap.size + 1) w.heap.size (.slice none 0 0) (dkNew n) where
  top := by
    have h := Blk.new (w.alloc (.cells (dcells (List.replicate n zeros256)).toArray 89)) 86 (dkCells n w.heap.size 0 (.slice none 0 0) 0 (-1) false)
    rw [World.size_alloc] at h
    have e : (dkNew n).cells w.heap.size (.slice none 0 0) = dkCells n w.heap.size 0 (.slice none 0 0) 0 (-1) false := by
      show dkCells (List.replicate n zeros256).length _ _ _ _ _ _ = _
      rw [List.length_replicate]; rfl
    rw [e]
    exact h
  sec := (Blk.new w 89 _).alloc _
  row := World.ownsRow_nil _ _ _ _
  ne := by omega
  neg := fun e => by cases e
  negd := fun e => by cases e
  hg := by omega
  hgd := by omega
  nilw := fun _ => rfl
  dur := fun s hs => by rw [List.eq_of_mem_replicate hs]; exact zeros256_length
  n0 := by show 0 < (List.replicate n zeros256).length; rw [List.length_replicate]; exact h0
  n1 := by show (List.replicate n zeros256).length ≤ _; rw [List.length_replicate]; exact hn
  own := by show 0 < 17; decide
  few := Nat.zero_le _
  wr := Nat.zero_le _
  ct := by show (-1 : Int) ≤ -1 ∧ (-1 : Int) ≤ 1000000; decide
  inn := fun x hx => by cases hx
section
attribute [local go_sem ↓] ms82 bd86
attribute [local go_sem] run_bd86
set_option maxRecDepth 100000 in
theorem dnew48 (w : World) : Calls Try.prog 32 #[.int .i64 48] w fun e w' => ∃ g gd, e = .returned (.pointer (some ⟨g, 0, none⟩)) ∧ DkAt w' w.heap.size g gd (.slice none 0 0) (dkNew 48) ∧ Below w.heap.size w w' := by
  have hms : (msV 82 (.int .i64 48) (.int .i64 48)).run Try.prog w = _ := run_ms82 48 (by decide) w
  have H := Lib.hid (dkAt_new w 48 (by decide) (by decide))
  have HB : Hid (Below w.heap.size w ((w.alloc (.cells (dcells (List.replicate 48 zeros256)).toArray 89)).alloc (.cells (dkCells 48 w.heap.size 0 (.slice none 0 0) 0 (-1) false) 86))) := ((Below.refl _ w).alloc (Nat.le_refl _) _).alloc (by simp) _
  generalize List.replicate 48 zeros256 = R at *
  go_enter Try.func32, Try.ntmps32
  go_wp2_with fail
  go_ret
  exact ⟨_, _, rfl, H.out, HB.out⟩
set_option maxRecDepth 100000 in
theorem dnew60 (w : World) : Calls Try.prog 32 #[.int .i64 60] w fun e w' => ∃ g gd, e = .returned (.pointer (some ⟨g, 0, none⟩)) ∧ DkAt w' w.heap.size g gd (.slice none 0 0) (dkNew 60) ∧ Below w.heap.size w w' := by
  have hms : (msV 82 (.int .i64 60) (.int .i64 60)).run Try.prog w = _ := run_ms82 60 (by decide) w
  have H := Lib.hid (dkAt_new w 60 (by decide) (by decide))
  have HB : Hid (Below w.heap.size w ((w.alloc (.cells (dcells (List.replicate 60 zeros256)).toArray 89)).alloc (.cells (dkCells 60 w.heap.size 0 (.slice none 0 0) 0 (-1) false) 86))) := ((Below.refl _ w).alloc (Nat.le_refl _) _).alloc (by simp) _
  generalize List.replicate 60 zeros256 = R at *
  go_enter Try.func32, Try.ntmps32
  go_wp2_with fail
  go_ret
  exact ⟨_, _, rfl, H.out, HB.out⟩
end

theorem bcells_at (l : List UInt8) (j : Nat) (h : j < l.length) : (bcells l)[j]? = some (.int .u8 (l.getD j 0).toNat) := by simp [bcells, List.getD, h]
theorem size89b (w : World) : (sizeOf 89).run Try.prog w = .ok 256 w := by kernel_rfl
theorem ddurable {w : World} {B g gd : Nat} {wv : Value} {d : Dk} (h : DkAt w B g gd wv d) (i : Nat) (hi : i < d.dur.length) :
    Calls Try.prog 39 #[.pointer (some ⟨g, 0, none⟩), .int .i64 i] w fun e w' => e = .returned (.tuple #[.string ⟨(d.dur.getD i []).toArray⟩, .bool true]) ∧ w = w' := by
  have HN := Lib.hid (dnone h i hi)
  have c0 := h.c0
  have hr := dcells_range h.sec h.dur i hi
  have hl := dur_len h.dur i hi
  have hcv := conv_cells (W := w) (g := gd) (o := i * 256) (l := d.dur.getD i []) (fun j hj => by
    have := hr j (.int .u8 ((d.dur.getD i []).getD j 0).toNat) (bcells_at _ _ hj)
    exact this) 256
  rw [hl] at hcv
  clear hr hl
  generalize d.dur.getD i [] = s at *
  generalize d.dur.length = n at *
  go_enter Try.func39, Try.ntmps39
  go_wp2_with fail
  refine HN.out.mono ?_
  rintro e w' ⟨rfl, rfl⟩
  go_wp2_with fail
  go_ret2
  exact ⟨rfl, rfl⟩
end Go.Proofs.Ytmpkcehjmjopdaa
