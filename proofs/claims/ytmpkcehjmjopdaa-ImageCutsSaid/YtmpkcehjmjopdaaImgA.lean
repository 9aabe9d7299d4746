import Derived.Test.YtmpkcehjmjopdaaSlotD
import Derived.Deep.MidRow
import Derived.Deep.AppendLies
import Derived.Laws.Tables
namespace Go.Proofs.Ytmpkcehjmjopdaa
open Go.RowKit

/-! ### Cells put into the midst of a block -/
def putAt (cs : Array Value) : Nat → List Value → Array Value
  | _, [] => cs
  | o, v :: r => putAt (cs.setIfInBounds o v) (o + 1) r
theorem Blk.setCells {g : Nat} {t : TypeId} : ∀ (vs : List Value) (o : Nat) {w : World} {cs : Array Value}, Blk w g t cs → Blk (w.setCells g o vs) g t (putAt cs o vs)
  | [], _, _, _, h => h
  | v :: r, o, _, _, h => Blk.setCells r (o + 1) (h.set_ o v)
theorem Blk.setCells_far {g b : Nat} {t : TypeId} (hg : g ≠ b) : ∀ (vs : List Value) (o : Nat) {w : World} {cs : Array Value}, Blk w g t cs → Blk (w.setCells b o vs) g t cs
  | [], _, _, _, h => h
  | v :: r, o, _, _, h => Blk.setCells_far hg r (o + 1) (h.far (p := ⟨b, o, none⟩) hg v)
theorem below_setCells {B b : Nat} (hb : B ≤ b) : ∀ (vs : List Value) (o : Nat) {a w : World}, Below B a w → Below B a (w.setCells b o vs)
  | [], _, _, _, h => h
  | v :: r, o, _, _, h => below_setCells hb r (o + 1) (h.setCell (p := ⟨b, o, none⟩) hb v)
theorem putAt_mid : ∀ (vs M C : List Value), vs.length = M.length → ∀ A : List Value, putAt (A ++ M ++ C).toArray A.length vs = (A ++ vs ++ C).toArray
  | [], M, C, h, A => by
    have : M = [] := List.eq_nil_of_length_eq_zero (by simpa using h.symm)
    subst this; simp [putAt]
  | v :: r, m :: M, C, h, A => by
    have hs : (A ++ (m :: M) ++ C).toArray.setIfInBounds A.length v = ((A ++ [v]) ++ M ++ C).toArray := by
      apply Array.ext'
      simp
    have := putAt_mid r M C (by simpa using h) (A ++ [v])
    rw [putAt, hs]
    rw [List.length_append] at this
    simpa using this
  | _ :: _, [], _, h, _ => by simp at h

/-! ### Sectors -/
theorem bcells_length (l : List UInt8) : (bcells l).length = l.length := by simp [bcells]
theorem bcells_one (l : List UInt8) : ∀ v ∈ bcells l, v.oneCell' = true := by
  intro v hv
  simp only [bcells, List.mem_map] at hv
  obtain ⟨c, _, rfl⟩ := hv
  rfl
def dcells (dur : List (List UInt8)) : List Value := dur.flatMap bcells
theorem dcells_length : ∀ {dur : List (List UInt8)}, (∀ s ∈ dur, s.length = 256) → (dcells dur).length = dur.length * 256
  | [], _ => rfl
  | s :: dur, h => by
    have := dcells_length (dur := dur) (fun x hx => h x (List.mem_cons_of_mem _ hx))
    have hs := h s (List.mem_cons_self ..)
    simp only [dcells, List.flatMap_cons, List.length_append, bcells_length, hs, List.length_cons] at this ⊢
    omega
theorem dcells_append (a b : List (List UInt8)) : dcells (a ++ b) = dcells a ++ dcells b := by simp [dcells]
theorem dur_split (dur : List (List UInt8)) (i : Nat) (hi : i < dur.length) : dur = dur.take i ++ dur.getD i [] :: dur.drop (i + 1) := by
  have : dur.drop i = dur.getD i [] :: dur.drop (i + 1) := by
    rw [List.drop_eq_getElem_cons hi]; simp [List.getD, hi]
  rw [← this, List.take_append_drop]
theorem dcells_split (dur : List (List UInt8)) (i : Nat) (hi : i < dur.length) : dcells dur = dcells (dur.take i) ++ bcells (dur.getD i []) ++ dcells (dur.drop (i + 1)) := by
  conv => lhs; rw [dur_split dur i hi, dcells_append]
  simp [dcells]
theorem dcells_take {dur : List (List UInt8)} (h : ∀ s ∈ dur, s.length = 256) (i : Nat) (hi : i ≤ dur.length) : (dcells (dur.take i)).length = i * 256 := by
  rw [dcells_length (fun s hs => h s (List.mem_of_mem_take hs)), List.length_take, Nat.min_eq_left hi]
theorem dur_len {dur : List (List UInt8)} (h : ∀ s ∈ dur, s.length = 256) (i : Nat) (hi : i < dur.length) : (dur.getD i []).length = 256 :=
  h _ (by simp [List.getD, hi])
theorem dcells_range {w : World} {gd : Nat} {t : TypeId} {dur : List (List UInt8)} (hB : Blk w gd t (dcells dur).toArray) (h : ∀ s ∈ dur, s.length = 256) (i : Nat) (hi : i < dur.length) : w.rangeAt gd (i * 256) (bcells (dur.getD i [])) := by
  intro j v hv
  rw [hB.cell, List.getElem?_toArray, dcells_split dur i hi, List.append_assoc, List.getElem?_append_right (by rw [dcells_take h i (by omega)]; omega), dcells_take h i (by omega), Nat.add_sub_cancel_left,
    List.getElem?_append_left (List.getElem?_eq_some_iff.1 hv).1, hv]
theorem dcells_there {w : World} {gd : Nat} {t : TypeId} {dur : List (List UInt8)} (hB : Blk w gd t (dcells dur).toArray) (h : ∀ s ∈ dur, s.length = 256) (i : Nat) (hi : i < dur.length) : w.there gd (i * 256) 256 := by
  intro j hj
  refine ⟨?_, hB.frozen _⟩
  have := dcells_range hB h i hi j _ (List.getElem?_eq_getElem (by rw [bcells_length, dur_len h i hi]; exact hj))
  rw [this]; rfl
theorem dcells_put {dur : List (List UInt8)} (h : ∀ s ∈ dur, s.length = 256) (i : Nat) (hi : i < dur.length) (s : List UInt8) (hs : s.length = 256) : putAt (dcells dur).toArray (i * 256) (bcells s) = (dcells (dur.set i s)).toArray := by
  have h1 := putAt_mid (bcells s) (bcells (dur.getD i [])) (dcells (dur.drop (i + 1))) (by rw [bcells_length, bcells_length, hs, dur_len h i hi]) (dcells (dur.take i))
  rw [dcells_take h i (by omega), ← dcells_split dur i hi] at h1
  rw [h1]
  have : dur.set i s = dur.take i ++ s :: dur.drop (i + 1) := by
    rw [List.set_eq_take_append_cons_drop, if_pos hi]
  rw [this, dcells_append]
  simp [dcells]
theorem dur_set {dur : List (List UInt8)} (h : ∀ s ∈ dur, s.length = 256) (i : Nat) (s : List UInt8) (hs : s.length = 256) : ∀ x ∈ dur.set i s, x.length = 256 := by
  intro x hx
  rcases List.mem_or_eq_of_mem_set hx with h1 | h1
  · exact h x h1
  · rw [h1]; exact hs

/-! ### Writes that wait -/
structure Wr where
  when_ : Nat
  i : Nat
  s : List UInt8
  hs : s.length = 256
def wrCells (n i : Nat) (s : List UInt8) : List Value := .int .i64 n :: .int .i64 i :: bcells s
def Wr.cells (x : Wr) : List Value := wrCells x.when_ x.i x.s
theorem wrCells_length (n i : Nat) (s : List UInt8) (hs : s.length = 256) : (wrCells n i s).length = 258 := by simp [wrCells, bcells_length, hs]
theorem Wr.cells_length (x : Wr) : x.cells.length = 258 := wrCells_length _ _ _ x.hs
theorem wrCells_one (n i : Nat) (s : List UInt8) : ∀ v ∈ wrCells n i s, v.oneCell' = true := by
  intro v hv
  simp only [wrCells, List.mem_cons] at hv
  rcases hv with rfl | rfl | hv
  · rfl
  · rfl
  · exact bcells_one _ v hv
def wcells (ws : List Wr) : List Value := ws.flatMap Wr.cells
theorem wcells_length : ∀ ws : List Wr, (wcells ws).length = ws.length * 258
  | [] => rfl
  | x :: ws => by
    have := wcells_length ws
    simp only [wcells, List.flatMap_cons, List.length_append, x.cells_length, List.length_cons] at this ⊢
    omega
theorem wcells_split (ws : List Wr) (j : Nat) (hj : j < ws.length) : wcells ws = wcells (ws.take j) ++ (ws[j]).cells ++ wcells (ws.drop (j + 1)) := by
  have h1 : ws = ws.take j ++ ws[j] :: ws.drop (j + 1) := by rw [← List.drop_eq_getElem_cons hj, List.take_append_drop]
  have h2 : wcells ws = wcells (ws.take j ++ ws[j] :: ws.drop (j + 1)) := congrArg wcells h1
  rw [h2]
  unfold wcells
  rw [List.flatMap_append, List.flatMap_cons, List.append_assoc]
theorem wcells_range {w : World} {B b cap : Nat} {ws : List Wr} (h : w.ownsRow B 91 258 (.slice (some ⟨b, 0, none⟩) ws.length cap) ws.length (wcells ws)) (j : Nat) (hj : j < ws.length) : w.rangeAt b (j * 258) (ws[j]).cells := by
  intro k v hv
  have hk : (wcells ws)[j * 258 + k]? = some v := by
    rw [wcells_split ws j hj, List.append_assoc]
    have hl : (wcells (ws.take j)).length = j * 258 := by rw [wcells_length, List.length_take, Nat.min_eq_left (by omega)]
    rw [List.getElem?_append_right (by omega), hl, Nat.add_sub_cancel_left, List.getElem?_append_left (List.getElem?_eq_some_iff.1 hv).1, hv]
  have := h.cells (g := b) rfl _ _ hk
  simpa [Addr.add_lit] using this

/-! ### The heavy steps, each under a name of its own -/
def alV (T : TypeId) : Sem Value := Instr.alloc T true (.tuple #[])
theorem al89 : Instr.alloc 89 true (.tuple #[]) = alV 89 := rfl
theorem al91 : Instr.alloc 91 true (.tuple #[]) = alV 91 := rfl
theorem ld89 (v : Value) : Instr.loadAt 89 v = ldV 89 v := rfl
theorem ld91 (v : Value) : Instr.loadAt 91 v = ldV 91 v := rfl
theorem ld84 (v : Value) : Instr.loadAt 84 v = ldV 84 v := rfl
theorem st89 (v u : Value) : Instr.storeAt 89 v u = stV 89 v u := rfl
theorem st91 (v u : Value) : Instr.storeAt 91 v u = stV 91 v u := rfl
def bdV (T : TypeId) (parts : Array (Nat × Value)) : Sem Value := Instr.build T parts
theorem bd91 (p : Array (Nat × Value)) : Instr.build 91 p = bdV 91 p := rfl
theorem bd86 (p : Array (Nat × Value)) : Instr.build 86 p = bdV 86 p := rfl
def bsV (T : TypeId) (n : Nat) (parts : Array (Nat × Value)) : Sem Value := Instr.buildSlice T n parts
theorem bs83 (n : Nat) (p : Array (Nat × Value)) : Instr.buildSlice 83 n p = bsV 83 n p := rfl
def msV (T : TypeId) (a b : Value) : Sem Value := Instr.makeSlice T a b
theorem ms82 (a b : Value) : Instr.makeSlice 82 a b = msV 82 a b := rfl
def apV (ty : TypeId) (a b : Value) : Sem Value := Builtin.append_ #[83, 83] ty #[a, b]
theorem ap83 (ty : TypeId) (a b : Value) : Builtin.append_ #[83, 83] ty #[a, b] = apV ty a b := rfl
def cpV (ty : TypeId) (a b : Value) : Sem Value := Builtin.copy_ #[27, 9] ty #[a, b]
theorem cp27 (ty : TypeId) (a b : Value) : Builtin.copy_ #[27, 9] ty #[a, b] = cpV ty a b := rfl
def ixV (T : TypeId) (a b : Value) : Sem Value := Instr.index T a b
theorem ix84 (a b : Value) : Instr.index 84 a b = ixV 84 a b := rfl

theorem info89 : (Try.prog.info? 89).map (fun i => (i.zero, i.size, i.bytes)) = some (some (.agg (bcells zeros256).toArray), 256, 256) := by kernel_rfl
theorem info91 : (Try.prog.info? 91).map (fun i => (i.zero, i.size, i.bytes)) = some (some (.agg (wrCells 0 0 zeros256).toArray), 258, 272) := by kernel_rfl
theorem size89 : (Try.prog.info? 89).map (·.size) = some 256 := by kernel_rfl
theorem size91 : (Try.prog.info? 91).map (·.size) = some 258 := by kernel_rfl
theorem size84 : (Try.prog.info? 84).map (·.size) = some 17 := by kernel_rfl
theorem run_alT {T : TypeId} {i : TypeInfo} {z : Value} (hi : Try.prog.info? T = some i) (hz : i.zero = some z) (w : World) : (alV T).run Try.prog w = .ok (.pointer (some ⟨w.heap.size, 0, none⟩)) (w.alloc (.cells z.cells T)) := by
  simp [alV, Instr.alloc, zeroValue, typeInfo, hi, hz, newVar, newRow]
theorem run_al89 (w : World) : (alV 89).run Try.prog w = .ok (.pointer (some ⟨w.heap.size, 0, none⟩)) (w.alloc (.cells (bcells zeros256).toArray 89)) := by
  obtain ⟨i, hi, hz, _⟩ := info_parts info89
  exact run_alT hi hz w
theorem run_al91 (w : World) : (alV 91).run Try.prog w = .ok (.pointer (some ⟨w.heap.size, 0, none⟩)) (w.alloc (.cells (wrCells 0 0 zeros256).toArray 91)) := by
  obtain ⟨i, hi, hz, _⟩ := info_parts info91
  exact run_alT hi hz w
theorem run_ldm89 {w : World} {b o : Nat} {s : List UInt8} (h : w.rangeAt b o (bcells s)) (hs : s.length = 256) : (ldV 89 (.pointer (some ⟨b, o, none⟩))).run Try.prog w = .ok (.agg (bcells s).toArray) w :=
  run_loadAt_mid w b o 89 (bcells s) _ h Try.underlying89 rfl (by rw [bcells_length, hs]; exact size89)
theorem run_ldm91 {w : World} {b o : Nat} {n i : Nat} {s : List UInt8} (h : w.rangeAt b o (wrCells n i s)) (hs : s.length = 256) : (ldV 91 (.pointer (some ⟨b, o, none⟩))).run Try.prog w = .ok (.agg (wrCells n i s).toArray) w :=
  run_loadAt_mid w b o 91 _ _ h Try.underlying91 rfl (by rw [wrCells_length _ _ _ hs]; exact size91)
theorem run_stm89 {w : World} {b o : Nat} {s : List UInt8} (h : w.there b o 256) (hs : s.length = 256) : (stV 89 (.pointer (some ⟨b, o, none⟩)) (.agg (bcells s).toArray)).run Try.prog w = .ok () (w.setCells b o (bcells s)) :=
  run_storeAt_mid w b o 89 _ (by simpa [bcells_length, hs] using h) (by simpa [bcells_length, hs] using size89) (all_oneCell_toArray (bcells_one s))
/-- a value into a variable that was just made -/
theorem run_st89_new (w : World) (s : List UInt8) (hs : s.length = 256) : (stV 89 (.pointer (some ⟨w.heap.size, 0, none⟩)) (.agg (bcells s).toArray)).run Try.prog (w.alloc (.cells (bcells zeros256).toArray 89)) = .ok () (w.alloc (.cells (bcells s).toArray 89)) := by
  have hB := Blk.new w 89 (bcells zeros256).toArray
  simp only [stV, Instr.storeAt, Instr.sureAddr, Sem.run_bind, Sem.run_pure, Result.andThen_ok]
  rw [run_storeVar_row _ w.heap.size 89 89 _ (bcells s).toArray hB (by simpa [bcells_length, hs] using size89) (by simp [bcells_length, hs, zeros256_length]) (all_oneCell_toArray (bcells_one s)), World.setRow_alloc_new]
theorem run_st91_new (w : World) (n i : Nat) (s : List UInt8) (hs : s.length = 256) : (stV 91 (.pointer (some ⟨w.heap.size, 0, none⟩)) (.agg (wrCells n i s).toArray)).run Try.prog (w.alloc (.cells (wrCells 0 0 zeros256).toArray 91)) = .ok () (w.alloc (.cells (wrCells n i s).toArray 91)) := by
  have hB := Blk.new w 91 (wrCells 0 0 zeros256).toArray
  have hl := wrCells_length n i s hs
  have hl0 := wrCells_length 0 0 zeros256 zeros256_length
  simp only [stV, Instr.storeAt, Instr.sureAddr, Sem.run_bind, Sem.run_pure, Result.andThen_ok]
  rw [run_storeVar_row _ w.heap.size 91 91 _ (wrCells n i s).toArray hB (by simpa [hl] using size91) (by simp [hl, hl0]) (all_oneCell_toArray (wrCells_one n i s)), World.setRow_alloc_new]
theorem run_bd91 (n i : Nat) (w : World) : (bdV 91 #[(0, .int .i64 n), (1, .int .i64 i)]).run Try.prog w = .ok (.agg (wrCells n i zeros256).toArray) w := run_build w 91 _ _ (by kernel_rfl)
end Go.Proofs.Ytmpkcehjmjopdaa
