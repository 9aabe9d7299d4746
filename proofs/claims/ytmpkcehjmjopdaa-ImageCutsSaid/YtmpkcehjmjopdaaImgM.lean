import Derived.Test.YtmpkcehjmjopdaaImgK
namespace Go.Proofs.Ytmpkcehjmjopdaa
open Go.RowKit Go.Sort

/-- a slice of integers that can be read -/
def Plc (w : World) (pa : Option Addr) (plen : Nat) : Prop := 0 < plen → ∃ (b o : Nat) (zs : Nat → Int), pa = some ⟨b, o, none⟩ ∧ b < w.heap.size ∧ ∀ j, j < plen → w.cell? ⟨b, o + j, none⟩ = some (.int .i64 (zs j))
theorem Plc.beyond {w w' : World} {pa : Option Addr} {plen : Nat} (h : Plc w pa plen) (hb : Below w.heap.size w w') : Plc w' pa plen := fun h0 => by
  obtain ⟨b, o, zs, e, hlt, hc⟩ := h h0
  exact ⟨b, o, zs, e, Nat.lt_of_lt_of_le hlt hb.size, fun j hj => (hb.cell hlt).trans (hc j hj)⟩
theorem rangeAt_below {B : Nat} {w w' : World} {b o : Nat} {cs : List Value} (h : w.rangeAt b o cs) (hb : Below B w w') (hB : b < B) : w'.rangeAt b o cs := fun j v hv => (hb.cell (p := ⟨b, o + j, none⟩) hB).trans (h j v hv)
/-- a slice of at most one write -/
def One (w : World) (p : Option Addr) (n : Nat) (x : Wr) : Prop := n ≤ 1 ∧ (0 < n → ∃ b, p = some ⟨b, 0, none⟩ ∧ b < w.heap.size ∧ w.rangeAt b 0 x.cells)
theorem One.beyond {w w' : World} {p : Option Addr} {n : Nat} {x : Wr} (h : One w p n x) (hb : Below w.heap.size w w') : One w' p n x := ⟨h.1, fun h0 => by
  obtain ⟨b, e, hlt, hr⟩ := h.2 h0
  exact ⟨b, e, Nat.lt_of_lt_of_le hlt hb.size, rangeAt_below hr hb hlt⟩⟩
theorem ms99 (a b : Value) : Instr.makeSlice 99 a b = msV 99 a b := rfl
theorem info4 : (Try.prog.info? 4).map (fun i => (i.zero, i.size, i.bytes)) = some (some (.bool false), 1, 1) := by kernel_rfl
/-- flags: so many bools -/
def Flags (cs : Array Value) (n : Nat) : Prop := cs.size = n ∧ ∀ k, k < n → ∃ c, cs[k]? = some (.bool c)
theorem flags_set {cs : Array Value} {n : Nat} (h : Flags cs n) (k : Nat) (c : Bool) : Flags (cs.setIfInBounds k (.bool c)) n := by
  refine ⟨by simp [h.1], fun j hj => ?_⟩
  obtain ⟨c0, hc⟩ := h.2 j hj
  rw [Array.getElem?_setIfInBounds]
  split
  · rename_i e; subst e
    rw [if_pos (by rw [h.1]; exact hj)]; exact ⟨c, rfl⟩
  · exact ⟨c0, hc⟩
theorem run_ms99 (n : Nat) (hn : n ≤ 1) (w : World) : ∃ cs, Flags cs n ∧ (msV 99 (.int .i64 n) (.int .i64 n)).run Try.prog w = .ok (.slice (some ⟨w.heap.size, 0, none⟩) n n) (w.alloc (.cells cs 4)) := by
  obtain ⟨i, hi, hz, hs, hb⟩ := info_parts info4
  have h := run_make w 99 4 i _ Try.underlying99 hi hz .i64 .i64 n n (by omega) (by omega) (by rw [hb]; omega) (by omega)
  rw [hs, Int.toNat_natCast, Nat.mul_one] at h
  refine ⟨_, ⟨size_madeCells _ _, fun k hk => ?_⟩, h⟩
  obtain rfl : n = 1 := by omega
  obtain rfl : k = 0 := by omega
  exact ⟨false, by simp [madeCells, Value.cells]⟩

section
attribute [local go_sem ↓] al89 al91 ld89 ld91 st89 st91 ms99 bs83
attribute [local go_sem] run_al89 run_al91
set_option maxRecDepth 100000 in
set_option maxHeartbeats 2000000 in
theorem dkept (w : World) (p0 : Option Addr) (n0 cap0 : Nat) (x : Wr) (pa : Option Addr) (plen pcap : Nat) (H1 : One w p0 n0 x) (H2 : Plc w pa plen) (hpl : plen ≤ 1000) :
    Calls Try.prog 68 #[.slice p0 n0 cap0, .slice pa plen pcap] w fun e w' => ∃ p n cap, e = .returned (.slice p n cap) ∧ One w' p n x ∧ n ≤ n0 ∧ Below w.heap.size w w' := by
  obtain ⟨cs, hfl, hms⟩ := run_ms99 n0 H1.1 w
  have hn0 := H1.1
  have hB0 : Blk (w.alloc (.cells cs 4)) w.heap.size 4 cs := Blk.new w 4 cs
  have hb0 : Below w.heap.size w (w.alloc (.cells cs 4)) := (Below.refl _ w).alloc (Nat.le_refl _) _
  have HH1 := Lib.hid H1
  have HH2 := Lib.hid H2
  clear H1 H2
  go_enter Try.func68, Try.ntmps68
  go_wp2_with fail
  generalize w.alloc (.cells cs 4) = v0 at *
  go_loopw [16] (fun j wr => ∃ (j' : Nat) (cs : Array Value), j' ≤ plen ∧ j = .int .i64 j' ∧ Hid (Flags cs n0) ∧ Blk wr w.heap.size 4 cs ∧ Below w.heap.size w wr) (fun j _ => plen - (intOf j).toNat)
  case atStart => exact ⟨0, cs, by omega, rfl, hfl, hB0, hb0⟩
  case round =>
    clear hB0 hb0 hms hfl
    obtain ⟨j, cs, hj, rfl, hfl, hB, hW⟩ := hrel
    by_cases hjp : j < plen
    · obtain ⟨bb, oo, zs, rfl, hbb, hcell⟩ := HH2.out (by omega)
      have cz : wr.cell? ⟨bb, oo + j, none⟩ = some (.int .i64 (zs j)) := (hW.cell hbb).trans (hcell j hjp)
      clear hcell
      generalize zs j = z at *
      by_cases hz0 : 0 ≤ z
      · have t1 : decide ((0 : Int) ≤ z) = true := by simpa using hz0
        by_cases hzn : z < n0
        · have t2 : decide (z < (n0 : Int)) = true := by simpa using hzn
          obtain rfl : z = 0 := by omega
          obtain rfl : n0 = 1 := by omega
          obtain ⟨c, hc⟩ := hfl.out.2 0 (by omega)
          have c0 : wr.cell? ⟨w.heap.size, 0, none⟩ = some (.bool c) := by rw [hB.cell]; exact hc
          have f0 := hB.frozen 0
          have hB2 := hB.set_ 0 (.bool true)
          have hF2 := Lib.hid (flags_set hfl.out 0 true)
          have hW2 := hW.setCell (p := ⟨w.heap.size, 0, none⟩) (Nat.le_refl _) (.bool true)
          clear hB hW hc hfl hz0 hzn
          go_wp2_with fail
          go_roundw
          case rel => exact ⟨j + 1, _, by omega, by go_num, hF2, hB2, hW2⟩
          case measure => simp [intOf]; omega
        · have t2 : decide (z < (n0 : Int)) = false := by simpa using hzn
          clear hzn
          go_wp2_with fail
          go_roundw
          case rel => exact ⟨j + 1, cs, by omega, by go_num, hfl, hB, hW⟩
          case measure => simp [intOf]; omega
      · have t1 : decide ((0 : Int) ≤ z) = false := by simpa using hz0
        clear hz0
        go_wp2_with fail
        go_roundw
        case rel => exact ⟨j + 1, cs, by omega, by go_num, hfl, hB, hW⟩
        case measure => simp [intOf]; omega
    · obtain rfl : j = plen := by omega
      go_wp2_with fail
      go_loopw [8, 34] (fun v k wr => ∃ (k' : Nat) (p : Option Addr) (n cap : Nat), k' ≤ n0 ∧ k = .int .i64 k' ∧ v = .slice p n cap ∧ n ≤ k' ∧ (k' = 0 → p = none ∧ cap = 0) ∧ Hid (One wr p n x) ∧ Blk wr w.heap.size 4 cs ∧ Below w.heap.size w wr) (fun _ k _ => n0 - (intOf k).toNat)
      case atStart => exact ⟨0, none, 0, 0, by omega, rfl, rfl, by omega, (fun _ => ⟨rfl, rfl⟩), ⟨by omega, fun h => absurd h (by omega)⟩, hB, hW⟩
      case round =>
        clear hB hW
        obtain ⟨k, p, n, cap, hk, rfl, rfl, hnk, hp0, hO, hB, hW⟩ := hrel
        by_cases hkn : k < n0
        · obtain rfl : k = 0 := by omega
          obtain rfl : n = 0 := by omega
          obtain ⟨rfl, rfl⟩ := hp0 rfl
          obtain ⟨b, rfl, hbl, hrg⟩ := HH1.out.2 (by omega)
          have hrg' := rangeAt_below hrg hW hbl
          obtain ⟨xw, xi, xs, xl⟩ := x
          have l91 := run_ldm91 (w := wr) (b := b) (o := 0) (n := xw) (i := xi) (s := xs) hrg' xl
          have hst := run_st91_new wr xw xi xs xl
          obtain ⟨c, hc⟩ := hfl.out.2 0 (by omega)
          have hX := Blk.new wr 91 (wrCells xw xi xs).toArray
          have hW2 := hW.alloc hW.size (.cells (wrCells xw xi xs).toArray 91)
          have hB2 := hB.alloc (.cells (wrCells xw xi xs).toArray 91)
          have c0 : (wr.alloc (.cells (wrCells xw xi xs).toArray 91)).cell? ⟨w.heap.size, 0, none⟩ = some (.bool c) := by rw [hB2.cell]; exact hc
          generalize hv1 : wr.alloc (.cells (wrCells xw xi xs).toArray 91) = v1 at *
          clear hrg' hB hW hc
          cases c with
          | false =>
            go_wp2_with fail
            go_roundw
            case rel => exact ⟨1, none, 0, 0, by omega, by go_num, rfl, by omega, (fun _ => ⟨rfl, rfl⟩), ⟨by omega, fun h => absurd h (by omega)⟩, hB2, hW2⟩
            case measure => simp [intOf]; omega
          | true =>
            obtain ⟨i0, hi0, hz0, hz1, hz2⟩ := info_parts info91
            have hl := wrCells_length xw xi xs xl
            have ld2 := run_ldm91 (w := v1) (b := wr.heap.size) (o := 0) (n := xw) (i := xi) (s := xs) (fun j v hv => by rw [Nat.zero_add]; exact (hX.cell j).trans (by simpa using hv)) xl
            have hbs := run_bs83 xw xi xs xl
            have hnew : Blk (v1.alloc (.cells (wrCells xw xi xs).toArray 91)) v1.heap.size 91 (wrCells xw xi xs).toArray := Blk.new v1 91 _
            have hB3 := hB2.alloc (.cells (wrCells xw xi xs).toArray 91)
            have hW3 := hW2.alloc hW2.size (.cells (wrCells xw xi xs).toArray 91)
            have hz : (Value.agg (wrCells 0 0 zeros256).toArray).cells.size = 258 := by show (wrCells 0 0 zeros256).toArray.size = 258; simp [wrCells_length _ _ _ zeros256_length]
            have hle := Nat.le_trans hW3.size (Nat.le_refl _)
            clear hB2 hW2 hX
            go_wp2_with (at_builtin; refine wpList_append_lies _ rfl _ _ 83 (by rfl) w.heap.size 91 i0 _ 258 272 Try.underlying83 hi0 hz0 hz1 hz2 hz (by omega) (.slice none 0 0) 0 [] (by rfl) (World.ownsRow_nil _ _ _ _) ⟨v1.heap.size, 0, none⟩ 1 1 (wrCells xw xi xs) (by rfl) (by rw [hl]) (fun j u hu => World.news_of_block hnew j u (by simpa using hu)) (wrCells_one _ _ _) (by omega) (by unfold maxLen; omega) (by omega) hle _ rfl ?_)
            intro g' cap' w4 hown hgrow hat hlt
            have hW4 := hW3.grown hgrow hle (fun k hk => by cases hk)
            have hB4 : Blk w4 w.heap.size 4 cs := (hgrow.block _ hB3.lt (fun e => by cases e)).trans hB3
            have hO4 : Hid (One w4 (some ⟨g', 0, none⟩) 1 ⟨xw, xi, xs, xl⟩) := ⟨by omega, fun _ => ⟨g', rfl, hlt, fun j v hv => by
              have := hown.cells (g := g') rfl j v hv
              simpa [Addr.add_lit] using this⟩⟩
            clear hown hgrow hat hlt hB3 hW3 hnew ld2 hbs
            go_wp2_with fail
            go_roundw
            case rel => exact ⟨1, some ⟨g', 0, none⟩, 1, cap', by omega, by go_num, rfl, by omega, (fun h => absurd h (by omega)), hO4, hB4, hW4⟩
            case measure => simp [intOf]; omega
        · obtain rfl : k = n0 := by omega
          go_wp2_with fail
          go_ret
          exact ⟨p, n, cap, rfl, hO.out, hnk, hW⟩
end
end Go.Proofs.Ytmpkcehjmjopdaa
