import Derived.Test.YtmpkcehjmjopdaaImgD
import Derived.Great.BuildSlice
import Derived.Deep.RegionLaw
namespace Go.Proofs.Ytmpkcehjmjopdaa
open Go.RowKit

/-- how many writes are left behind one more -/
def cutDown (c : Int) : Int := if 0 < c then c - 1 else c
def Dk.write (d : Dk) (o i : Nat) (s : List UInt8) (hs : s.length = 256) : Dk :=
  { dur := d.dur, own := o, ws := d.ws ++ [⟨d.writes, i, s, hs⟩], writes := d.writes + 1, cut := cutDown d.cut, down := decide (cutDown d.cut = 0) }

theorem fold_putAt (off : Nat) : ∀ (l : List Value) (k : Nat) (base : Array Value), (l.zipIdx k).foldl (fun cs p => cs.setIfInBounds (off + p.2) p.1) base = putAt base (off + k) l
  | [], _, _ => rfl
  | v :: r, k, base => by
    rw [List.zipIdx_cons, List.foldl_cons, fold_putAt off r (k + 1)]
    rfl
theorem fill_one (cs base : Array Value) (h1 : cs.size = 258) (h2 : base.size = 258) : Instr.fill (fun k => some (k * 258, 258)) base [(0, .agg cs)] = some cs := by
  have hc : (Value.agg cs).cells = cs := rfl
  have hput : cs.zipIdx.foldl (fun b (x : Value × Nat) => b.setIfInBounds (0 * 258 + x.2) x.1) base = cs := by
    have h3 := fold_putAt (0 * 258) cs.toList 0 base
    have h4 := putAt_mid cs.toList base.toList [] (by simp [h1, h2]) []
    simp only [List.nil_append, List.append_nil, List.length_nil] at h4
    rw [← Array.foldl_toList, Array.toList_zipIdx, h3]
    simpa using h4
  simp only [Instr.fill, hc]
  rw [if_neg (by simp [h1, h2])]
  simp only [hput]
theorem run_bs83 (n i : Nat) (s : List UInt8) (hs : s.length = 256) (w : World) : (bsV 83 1 #[(0, .agg (wrCells n i s).toArray)]).run Try.prog w = .ok (.slice (some ⟨w.heap.size, 0, none⟩) 1 1) (w.alloc (.cells (wrCells n i s).toArray 91)) := by
  obtain ⟨i0, hi, hz, hsz, _⟩ := info_parts info91
  have hl := wrCells_length n i s hs
  refine run_buildSlice w 83 91 1 _ _ i0 _ Try.underlying83 hi hz (by rw [hsz]; decide) (by rw [hsz]; decide) ?_
  rw [hsz]
  exact fill_one _ _ (by simp [hl]) (by simp)
theorem run_cp27 {w : World} {b : Nat} {t ty : TypeId} {n i : Nat} {s : List UInt8} (hs : s.length = 256) (h : Blk w b t (wrCells n i zeros256).toArray) :
    (cpV ty (.slice (some ⟨b, 2, none⟩) 256 256) (.string ⟨s.toArray⟩)).run Try.prog w = .ok (goInt 256) (w.setCells b 2 (bcells s)) := by
  obtain ⟨i5, hi5, _, hz1, _⟩ := info_parts info5
  have hsz : (⟨s.toArray⟩ : ByteArray).size = 256 := by show s.toArray.size = 256; simp [hs]
  have he : (s.map (fun b => Value.int .u8 (b.toNat : Int))).take 256 = bcells s := List.take_of_length_le (by simp [hs])
  have hst := run_storeCells_cells (P := Try.prog) b 2 (bcells s) 0 w (fun j hj => by
    rw [bcells_length, hs] at hj
    rw [h.cell, List.getElem?_toArray, List.getElem?_eq_getElem (by rw [wrCells_length _ _ _ zeros256_length]; omega)]; rfl) (fun j _ => h.frozen _) (bcells_one s)
  simp only [cpV, Builtin.copy_]
  simp [run_underlying Try.underlying27, Builtin.lenOf, Builtin.firstCells, sizeOf, typeInfo, hi5, hsz, he, hst]
theorem blk_copied {w : World} {b : Nat} {t : TypeId} {n i : Nat} {s : List UInt8} (hs : s.length = 256) (h : Blk w b t (wrCells n i zeros256).toArray) : Blk (w.setCells b 2 (bcells s)) b t (wrCells n i s).toArray := by
  have h3 := h.setCells (bcells s) 2
  have h4 := putAt_mid (bcells s) (bcells zeros256) [] (by rw [bcells_length, bcells_length, hs, zeros256_length]) [.int .i64 n, .int .i64 i]
  simp only [List.append_nil] at h4
  have h5 : putAt (wrCells n i zeros256).toArray 2 (bcells s) = (wrCells n i s).toArray := h4
  rwa [h5] at h3

/-- a disk behind a write: its parts in the new world -/
theorem DkAt.written {w w3 : World} {B g gd : Nat} {wv wv' : Value} {d : Dk} (h : DkAt w B g gd wv d) (o i : Nat) (ho : o ≤ 16) (hi : i < d.dur.length) (s : List UInt8) (hs : s.length = 256)
    (hf : d.ws.length < 1000) (hwr : d.writes < 900000)
    (hsec : w3.heap[gd]? = w.heap[gd]?) (hrow : w3.ownsRow B 91 258 wv' (d.ws.length + 1) (wcells d.ws ++ wrCells d.writes i s)) (hn1 : wv'.ownBlock ≠ some g) (hn2 : wv'.ownBlock ≠ some gd) :
    ∀ W : World, Blk W g 86 ((d.write o i s hs).cells gd wv') → (∀ k, k ≠ g → W.heap[k]? = w3.heap[k]?) → DkAt W B g gd wv' (d.write o i s hs) := fun W htop hW => {
  top := htop
  sec := by
    have h1 : Blk w3 gd 89 (dcells d.dur).toArray := hsec.trans h.sec
    exact (hW gd (Ne.symm h.ne)).trans h1
  row := by
    have h1 : w3.ownsRow B 91 258 wv' (d.ws ++ [(⟨d.writes, i, s, hs⟩ : Wr)]).length (wcells (d.ws ++ [⟨d.writes, i, s, hs⟩])) := by
      have : wcells (d.ws ++ [⟨d.writes, i, s, hs⟩]) = wcells d.ws ++ wrCells d.writes i s := by
        unfold wcells
        rw [List.flatMap_append, List.flatMap_cons, List.flatMap_nil, List.append_nil]; rfl
      rw [this, List.length_append]
      exact hrow
    refine ownsRow_of_block h1 fun k hk => ?_
    exact hW k (fun e => hn1 (by rw [← e]; exact hk))
  ne := h.ne
  neg := hn1
  negd := hn2
  hg := h.hg
  hgd := h.hgd
  nilw := fun e => by simp [Dk.write] at e
  dur := h.dur
  n0 := h.n0
  n1 := h.n1
  own := by show o < 17; omega
  few := by show (d.ws ++ [(⟨d.writes, i, s, hs⟩ : Wr)]).length ≤ 1000; rw [List.length_append]; simp; omega
  wr := by show d.writes + 1 ≤ 1000000; omega
  ct := by
    have := h.ct
    show -1 ≤ cutDown d.cut ∧ cutDown d.cut ≤ 1000000
    unfold cutDown; split <;> omega
  inn := by
    intro x hx
    have hx : x ∈ d.ws ++ [⟨d.writes, i, s, hs⟩] := hx
    rcases List.mem_append.1 hx with h1 | h1
    · exact ⟨(h.inn x h1).1, Nat.lt_succ_of_lt (h.inn x h1).2⟩
    · obtain rfl : x = ⟨d.writes, i, s, hs⟩ := by simpa using h1
      exact ⟨hi, Nat.lt_succ_self _⟩ }

/-- an append whose run is known, as one step of a region that draws its order -/
theorem step_append_run {P : Program} {ops : Array Oper} {o : Oper} {a : Act} {w : World} {K : Act → World → Prop} {Q : Exit → Act → World → Prop} {E : Prop} (hgd : o.guard = none) (s x : Operand) (t : TypeId)
    (ho : o.op = .call { callee := .builtin .append, args := #[s, x], argTypes := #[t, t] }) {v u r : Value} {w' : World} (hs : a.eval s = v) (hx : a.eval x = u)
    (hrun : (Builtin.append_ #[t, t] o.type #[v, u]).run P w = .ok r w') (h : K (a.put o.dst r) w') : if Region.wanted o (yielded ops a.tmps) = true then Oper.wp P o a w K Q else E := by
  have hw : Region.wanted o (yielded ops a.tmps) = true := by simp [Region.wanted, hgd]
  rw [if_pos hw]
  unfold Oper.wp execOp
  simp only [ho, resolve, invoke, builtin, Sem.run_bind, Sem.run_pure, Result.andThen_ok, List.map_toArray, List.map_cons, List.map_nil, hs, hx, hrun]
  exact h

section
attribute [local go_sem ↓] al89 al91 ld89 ld91 ld84 st89 st91 ix84 bd91 bs83 cp27
attribute [local go_sem] run_al89 run_al91 run_bd91
set_option maxRecDepth 100000 in
set_option maxHeartbeats 2000000 in
theorem dwrite {w : World} {B g gd : Nat} {wv : Value} {d : Dk} (h : DkAt w B g gd wv d) (o i : Nat) (ho : o ≤ 16) (hi : i < d.dur.length) (s : List UInt8) (hs : s.length = 256) (hw : d.ws = [] ∨ d.own = o) (hd : d.down = false)
    (hf : d.ws.length < 1000) (hwr : d.writes < 900000) :
    Calls Try.prog 36 #[.pointer (some ⟨g, 0, none⟩), .int .i64 o, .int .i64 i, .string ⟨s.toArray⟩] w fun e w' => e = .returned (.bool true) ∧ ∃ wv', DkAt w' B g gd wv' (d.write o i s hs) ∧ DkTo w w' g gd wv wv' := by
  have H := Lib.hid h
  have c20 := h.c20
  rw [hd] at c20
  have c18 := h.c18
  have HN := Lib.hid (dnone h i hi)
  have hoi : (o : Int) < 17 := by omega
  have hs256 : ((s.length : Int) != 256) = false := by simp [hs]
  have hst := run_st91_new w d.writes i zeros256 zeros256_length
  have hB := Blk.new w 91 (wrCells d.writes i zeros256).toArray
  have hcp := fun ty => run_cp27 (ty := ty) hs hB
  have hbel : Below w.heap.size w (w.alloc (.cells (wrCells d.writes i zeros256).toArray 91)) := (Below.refl _ _).alloc (Nat.le_refl _) _
  have hbel2 := below_setCells (Nat.le_refl w.heap.size) (bcells s) 2 hbel
  have hB2 := blk_copied hs hB
  go_enter Try.func36, Try.ntmps36
  go_wp2_with fail
  refine (dnobody o _ ho).mono ?_
  rintro e w' ⟨rfl, rfl⟩
  go_wp2_with fail
  refine HN.out.mono ?_
  rintro e w' ⟨rfl, rfl⟩
  go_wp2_with fail
  have hA2 := H.out.beyond hbel2
  generalize (w.alloc (.cells (wrCells d.writes i zeros256).toArray 91)).setCells w.heap.size 2 (bcells s) = v2 at *
  clear hcp hbel hB hst c20 c18 HN
  have hrow : Below v2.heap.size v2 (v2.alloc (.cells (wrCells d.writes i s).toArray 91)).drew := ((Below.refl _ _).alloc (Nat.le_refl _) _).drew
  have hA3 := hA2.beyond hrow
  have hT3 : DkTo w (v2.alloc (.cells (wrCells d.writes i s).toArray 91)).drew g gd wv wv := .of_below (below2 hbel2 hrow)
  have cw := hA2.cown o (by omega) hw
  have cw2 : (v2.alloc (.cells (wrCells d.writes i s).toArray 91)).cell? ⟨g, 1 + o, none⟩ = some wv := hA3.cown o (by omega) hw
  have hl := wrCells_length d.writes i s hs
  have l91 := run_ldm91 (w := v2.drew) (b := w.heap.size) (o := 0) (n := d.writes) (i := i) (s := s) (fun j v hv => by
    rw [Nat.zero_add]
    exact (hB2.cell j).trans (by simpa using hv)) hs
  have hbs := run_bs83 d.writes i s hs
  have hnew : Blk (v2.alloc (.cells (wrCells d.writes i s).toArray 91)).drew v2.heap.size 91 (wrCells d.writes i s).toArray := Blk.new v2 91 _
  obtain ⟨i0, hi0, hz0, hz1, hz2⟩ := info_parts info91
  obtain ⟨g', cap, w3, hrun, hown, hgrow, hat, hlt⟩ := run_append_lies (P := Try.prog) (v2.alloc (.cells (wrCells d.writes i s).toArray 91)).drew 83 83 B 91 i0 _ 258 272 Try.underlying83 hi0 hz0 hz1 hz2
    (by show (wrCells 0 0 zeros256).toArray.size = 258; simp [wrCells_length _ _ _ zeros256_length]) (by omega) wv d.ws.length (wcells d.ws) hA3.row ⟨v2.heap.size, 0, none⟩ 1 1 (wrCells d.writes i s) (by rw [hl])
    (fun j u hu => World.news_of_block hnew j u (by simpa using hu)) (wrCells_one _ _ _) (by omega) (by unfold maxLen; omega) (by omega) hA3.le _ rfl
  have HR := Lib.hid hrun
  clear hrun
  have htop := hgrow.block g hA3.lt (fun e => hA3.neg e.symm)
  have hsec := hgrow.block gd hA3.sec.lt (fun e => hA3.negd e.symm)
  have hgg : g' ≠ g := by
    rcases hat with h1 | h1
    · intro e; exact hA3.neg (by rw [h1, e])
    · have := hA3.lt; omega
  have hgd : g' ≠ gd := by
    rcases hat with h1 | h1
    · intro e; exact hA3.negd (by rw [h1, e])
    · have := hA3.sec.lt; omega
  have hfin := DkAt.written hA3 o i ho hi s hs hf hwr hsec hown (by show some g' ≠ some g; simpa using hgg) (by show some g' ≠ some gd; simpa using hgd)
  have hT4 : DkTo w w3 g gd wv (.slice (some ⟨g', 0, none⟩) (d.ws.length + 1) cap) := hT3.trans ⟨hgrow.os, hgrow.tape, hgrow.output, hgrow.size, fun k hk _ _ h3 => hgrow.block k hk (fun e => h3 e.symm), fun k hk h3 => by
    show some g' ≠ some k
    rcases hat with h1 | h1
    · rw [← h1]; exact h3
    · intro e; have : g' = k := by simpa using e
      omega⟩
  have hB3 : Blk w3 g 86 (d.cells gd wv) := htop.trans hA3.top
  have c3 : w3.cell? ⟨g, 1 + o, none⟩ = some wv := (World.cell?_of_block (a := ⟨g, 1 + o, none⟩) htop).trans cw2
  have f3 := hB3.frozen (1 + o)
  have hB4 := hB3.set_ (1 + o) (.slice (some ⟨g', 0, none⟩) (d.ws.length + 1) cap)
  unfold Dk.cells at hB4
  rw [dkCells_sw (ho := by omega) (h := hw.imp H.out.nilw id)] at hB4
  have HB4 := Lib.hid hB4
  have c18 := (hB4.cell 18).trans (dkCells_18 ..)
  have c19 := (hB4.cell 19).trans (dkCells_19 ..)
  have c20 := (hB4.cell 20).trans (dkCells_20 ..)
  have f18 := hB4.frozen 18
  have f19 := hB4.frozen 19
  have f20 := hB4.frozen 20
  have hcb := H.out.ct
  have HFin := Lib.hid hfin
  have HT4 := Lib.hid (hT4.setCell (p := ⟨g, 1 + o, none⟩) (.inl rfl) (.slice (some ⟨g', 0, none⟩) (d.ws.length + 1) cap))
  have HO : Hid (∀ k, k ≠ g → (w3.setCell ⟨g, 1 + o, none⟩ (.slice (some ⟨g', 0, none⟩) (d.ws.length + 1) cap)).heap[k]? = w3.heap[k]?) := fun k hk => Below.heap_setCell _ _ _ _ hk
  clear hT4 hT3 hfin hB3 hB4 htop hsec hown hgrow hat hlt hnew hA3 hA2 hrow hB2 hbel2 hi0 hz0 hz1 hz2 hs256
  generalize d.ws.length + 1 = n1 at *
  go_upto_region 5 with fail
  go_cut [8] (fun _ wx => wx = w3.setCell ⟨g, 1 + o, none⟩ (.slice (some ⟨g', 0, none⟩) n1 cap))
  case first =>
    go_region_law (refine step_append_run (by rfl) (.tmp 45) (.tmp 47) 83 (by rfl) (by rfl) (by rfl) HR.out ?_)
    all_goals
      go_wp2_with fail
      go_meet
      rfl
  case rest =>
    obtain rfl := hcut
    clear cw cw2 c3 f3 l91 hbs
    generalize w3.setCell ⟨g, 1 + o, none⟩ (.slice (some ⟨g', 0, none⟩) n1 cap) = w4 at *
    have HCd : Hid (cutDown d.cut = if 0 < d.cut then d.cut - 1 else d.cut) := rfl
    have HWr : Hid ((d.write o i s hs).cells gd (.slice (some ⟨g', 0, none⟩) n1 cap) = dkCells d.dur.length gd o (.slice (some ⟨g', 0, none⟩) n1 cap) (d.writes + 1) (cutDown d.cut) (decide (cutDown d.cut = 0))) := rfl
    by_cases hc : 0 < d.cut
    · have hdc : decide (0 < d.cut) = true := by simpa using hc
      have hB7 := ((HB4.out.set_ 18 (.int .i64 ((d.writes : Int) + 1))).set_ 19 (.int .i64 (d.cut - 1))).set_ 20 (.bool (d.cut - 1 == 0))
      have hT7 := ((HT4.out.setCell (p := ⟨g, 18, none⟩) (.inl rfl) (.int .i64 ((d.writes : Int) + 1))).setCell (p := ⟨g, 19, none⟩) (.inl rfl) (.int .i64 (d.cut - 1))).setCell (p := ⟨g, 20, none⟩) (.inl rfl) (.bool (d.cut - 1 == 0))
      have hF7 := HFin.out _ (by
        rw [HWr.out, HCd.out, if_pos hc]
        have := hB7
        rw [show ((d.writes : Int) + 1) = ((d.writes + 1 : Nat) : Int) from rfl, dkCells_s18, dkCells_s19, dkCells_s20] at this
        exact this) (fun k hk => by rw [Below.heap_setCell _ _ _ _ hk, Below.heap_setCell _ _ _ _ hk, Below.heap_setCell _ _ _ _ hk]; exact HO.out k hk)
      have HF7 := Lib.hid hF7
      have HT7 := Lib.hid hT7
      clear hF7 hT7 hB7
      go_wp2_with fail
      go_ret
      exact ⟨rfl, _, HF7.out, HT7.out⟩
    · have hdc : decide (0 < d.cut) = false := by simpa using hc
      have hB7 := (HB4.out.set_ 18 (.int .i64 ((d.writes : Int) + 1))).set_ 20 (.bool (d.cut == 0))
      have hT7 := (HT4.out.setCell (p := ⟨g, 18, none⟩) (.inl rfl) (.int .i64 ((d.writes : Int) + 1))).setCell (p := ⟨g, 20, none⟩) (.inl rfl) (.bool (d.cut == 0))
      have hF7 := HFin.out _ (by
        rw [HWr.out, HCd.out, if_neg hc]
        have := hB7
        rw [show ((d.writes : Int) + 1) = ((d.writes + 1 : Nat) : Int) from rfl, dkCells_s18, dkCells_s20] at this
        exact this) (fun k hk => by rw [Below.heap_setCell _ _ _ _ hk, Below.heap_setCell _ _ _ _ hk]; exact HO.out k hk)
      have HF7 := Lib.hid hF7
      have HT7 := Lib.hid hT7
      clear hF7 hT7 hB7
      go_wp2_with fail
      go_ret
      exact ⟨rfl, _, HF7.out, HT7.out⟩
end
end Go.Proofs.Ytmpkcehjmjopdaa
