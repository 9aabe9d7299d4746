import Derived.Test.YtmpkcehjmjopdaaRows
import Derived.WalkKit
import Derived.Lib.ConvBytes
import Derived.Lib.IndexBytes
import Derived.Lib.Hide
import Derived.WalkSpells
import Derived.WalkLawsBesides
import Derived.Laws.BytesArg
import Derived.Deep.Draws
namespace Go.Proofs.Ytmpkcehjmjopdaa
open Go.RowKit

theorem ret_int {k : IntKind} {a b : Int} (h : a = b) : Ending.returned (.int k a) = .returned (.int k b) := by rw [h]
theorem bytesWorld_below (w : World) (e : TypeId) (s : ByteArray) : Below w.heap.size w (Lib.bytesWorld w e s) :=
  ⟨rfl, rfl, rfl, by rw [Lib.bytesWorld_size]; omega, fun k hk => Lib.bytesWorld_at_old w e s k hk⟩
theorem take_snoc (s : ByteArray) (k : Nat) (h : k < s.size) : s.data.toList.take (k + 1) = s.data.toList.take k ++ [s.data.toList.getD k 0] := by
  rw [List.take_succ_eq_append_getElem (by simpa using h)]
  simp [List.getD, h]
theorem str_ne {a b : ByteArray} (h : a.data.toList ≠ b.data.toList) : (a.toList == b.toList) = false := by
  rw [ByteArray.toList_eq, ByteArray.toList_eq]
  simpa using h
theorem below2 {w a b : World} (h1 : Below w.heap.size w a) (h2 : Below a.heap.size a b) : Below w.heap.size w b := h1.trans (h2.mono h1.size)
theorem below3 {w a b c : World} (h1 : Below w.heap.size w a) (h2 : Below a.heap.size a b) (h3 : Below b.heap.size b c) : Below w.heap.size w c := below2 (below2 h1 h2) h3
theorem below4 {w a b c d : World} (h1 : Below w.heap.size w a) (h2 : Below a.heap.size a b) (h3 : Below b.heap.size b c) (h4 : Below c.heap.size c d) : Below w.heap.size w d := below2 (below3 h1 h2 h3) h4

/-- what the walk is told of a slice of integers that came in -/
def IsRow (k : IntKind) (w : World) (a : Option Addr) (len cap : Nat) (zs : List Int) : Prop :=
  (a = none ∧ len = 0 ∧ cap = 0 ∧ zs = []) ∨
  ∃ x, a = some x ∧ len ≤ cap ∧ cap ≤ maxLen ∧ zs.length = cap ∧ (∀ i, i < zs.length → w.cell? (x.add i) = some (.int k (zs.getD i 0))) ∧ ∀ n ∈ zs, (Lit.int k n).wf = true

theorem IsRow.cells {k : IntKind} {w : World} {a : Option Addr} {len cap : Nat} {zs : List Int} (h : IsRow k w a len cap zs) (h0 : 0 < len) :
    ∃ b o, a = some ⟨b, o, none⟩ ∧ b < w.heap.size ∧ len ≤ cap ∧ zs.length = cap ∧ (∀ j, j < len → w.cell? ⟨b, o + j, none⟩ = some (.int k (zs.getD j 0))) ∧ ∀ n ∈ zs, (Lit.int k n).wf = true := by
  rcases h with ⟨_, rfl, _, _⟩ | ⟨x, rfl, hl, hm, hz, hcell, hwz⟩
  · omega
  · obtain ⟨b, o, spot⟩ := x
    have hc := hcell 0 (by omega)
    have hspot : spot = none := by simpa [Addr.add] using World.cell?_spot hc
    subst hspot
    refine ⟨b, o, rfl, ?_, hl, hz, fun j hj => by simpa [Addr.add_lit] using hcell j (by omega), hwz⟩
    rcases Nat.lt_or_ge b w.heap.size with hlt | hge
    · exact hlt
    · simp [World.cell?, Addr.add, Array.getElem?_eq_none hge] at hc
/-- a slice of bytes, as bytes -/
theorem IsRow.bytes {w : World} {a : Option Addr} {len cap : Nat} {zs : List Int} (h : IsRow .u8 w a len cap zs) (h0 : 0 < len) :
    ∃ (b o : Nat) (S : List UInt8), a = some ⟨b, o, none⟩ ∧ b < w.heap.size ∧ S.length = len ∧ (∀ j, j < len → w.cell? ⟨b, o + j, none⟩ = some (.int .u8 (S.getD j 0).toNat)) := by
  obtain ⟨b, o, rfl, hb, hl, hz, hc, hw⟩ := h.cells h0
  refine ⟨b, o, (zs.take len).map fun n => UInt8.ofNat n.toNat, rfl, hb, by simp; omega, fun j hj => ?_⟩
  rw [hc j hj]
  have hj' : j < zs.length := by omega
  have hwf := hw (zs.getD j 0) (by simp [List.getD, hj'])
  have h1 : IntKind.u8.min = 0 := rfl
  have h2 : IntKind.u8.max = 255 := rfl
  simp only [Lit.wf, Bool.and_eq_true, decide_eq_true_eq, h1, h2] at hwf
  have e : (((zs.take len).map fun n => UInt8.ofNat n.toNat).getD j 0) = UInt8.ofNat (zs.getD j 0).toNat := by
    simp [List.getD, hj, hj']
  rw [e, UInt8.toNat_ofNat']
  congr 2
  omega

/-- block g is just the cells cs of element type t, none frozen -/
def Blk (w : World) (g : Nat) (t : TypeId) (cs : Array Value) : Prop := w.heap[g]? = some (.cells cs t (0, 0))
section
variable {w w' : World} {g : Nat} {t : TypeId} {cs : Array Value}
theorem Blk.lt (h : Blk w g t cs) : g < w.heap.size := by
  rcases Nat.lt_or_ge g w.heap.size with hlt | hge
  · exact hlt
  · unfold Blk at h; rw [Array.getElem?_eq_none hge] at h; cases h
theorem Blk.cell (h : Blk w g t cs) (i : Nat) : w.cell? ⟨g, i, none⟩ = cs[i]? := cell_of_row w g i cs t (0, 0) h
theorem Blk.frozen (h : Blk w g t cs) (i : Nat) : w.frozen? ⟨g, i, none⟩ = false := by
  unfold Blk at h
  simp [World.frozen?, h]
theorem Blk.new (w : World) (t : TypeId) (cs : Array Value) : Blk (w.alloc (.cells cs t)) w.heap.size t cs := heap_alloc_new w _
theorem Blk.drew (h : Blk w g t cs) : Blk w.drew g t cs := h
theorem Blk.alloc (h : Blk w g t cs) (o : Obj) : Blk (w.alloc o) g t cs := (Below.heap_alloc w o g h.lt).trans h
theorem Blk.set_ (h : Blk w g t cs) (i : Nat) (u : Value) : Blk (w.setCell ⟨g, i, none⟩ u) g t (cs.setIfInBounds i u) := by
  unfold Blk at h ⊢
  simp [World.setCell, Array.getElem?_modify, h]
theorem Blk.far (h : Blk w g t cs) {p : Addr} (hp : g ≠ p.block) (u : Value) : Blk (w.setCell p u) g t cs := (Below.heap_setCell w p u g hp).trans h
theorem Blk.below {B : Nat} (h : Blk w g t cs) (hb : Below B w w') (hg : g < B) : Blk w' g t cs := (hb.block g hg).trans h
theorem Blk.beyond (h : Blk w g t cs) (hb : Below w.heap.size w w') : Blk w' g t cs := h.below hb h.lt
end

/-- the cells of bytes -/
def bcells (l : List UInt8) : List Value := l.map fun c => .int .u8 c.toNat
theorem bcells_get (l : List UInt8) (i : Nat) (h : i < l.length) (x : Array Value) : ((bcells l).toArray ++ x)[i]? = some (.int .u8 (l.getD i 0).toNat) := by
  rw [Array.getElem?_append_left (by simpa [bcells] using h)]
  simp [bcells, List.getD, h]
theorem bcells_set (l : List UInt8) (i : Nat) (h : i < l.length) (x : Array Value) (c : UInt8) : ((bcells l).toArray ++ x).setIfInBounds i (.int .u8 c.toNat) = (bcells (l.set i c)).toArray ++ x := by
  rw [Array.setIfInBounds_append_left (by simpa [bcells] using h)]
  simp [bcells, List.map_set]

theorem strOfNums_bytes (l : List UInt8) : strOfNums (l.map fun c => (c.toNat : Int)) = ⟨l.toArray⟩ := by
  unfold strOfNums
  rw [List.map_map]
  have : (l.map ((fun n : Int => UInt8.ofNat n.toNat) ∘ fun c : UInt8 => (c.toNat : Int))) = l := by
    conv => rhs; rw [← List.map_id l]
    apply List.map_congr_left
    intro c _
    simp
  rw [this]
theorem conv_cells {W : World} {g o : Nat} {l : List UInt8} (h : ∀ i, i < l.length → W.cell? ⟨g, o + i, none⟩ = some (.int .u8 (l.getD i 0).toNat)) (cap : Nat) :
    (convert 27 9 (.slice (some ⟨g, o, none⟩) l.length cap)).run Try.prog W = .ok (.string ⟨l.toArray⟩) W := by
  have := run_convert_bytes_arg (P := Try.prog) W 27 5 Try.underlying27 Try.underlying5 g o l.length cap (l.map fun c => (c.toNat : Int)) (by simp) (fun i hi => by
    rw [h i hi]
    simp [List.getD, hi]) 9 Try.underlying9
  rw [this, strOfNums_bytes]
/-- a text out of bytes in a block -/
theorem conv_blk {W : World} {g : Nat} {t : TypeId} {l : List UInt8} {x : Array Value} (h : Blk W g t ((bcells l).toArray ++ x)) (cap : Nat) :
    (convert 27 9 (.slice (some ⟨g, 0, none⟩) l.length cap)).run Try.prog W = .ok (.string ⟨l.toArray⟩) W :=
  conv_cells (fun i hi => by rw [h.cell, Nat.zero_add, bcells_get l i hi]) cap
theorem info5 : (Try.prog.info? 5).map (fun i => (i.zero, i.size, i.bytes)) = some (some (.int .u8 0), 1, 1) := by kernel_rfl
/-- append([]byte(nil), s...): a new block of just these bytes -/
theorem wpList_copy_bytes {ops : Array Oper} {rest : List Oper} {o : Oper} {a : Act} {Q : Exit → Act → World → Prop} (w : World) (hgd : o.guard = none) (s x : Operand)
    (ho : o.op = .call { callee := .builtin .append, args := #[s, x], argTypes := #[27, 27] })
    (hs : a.eval s = .slice none 0 0) (ad : Addr) (S : List UInt8) (c : Nat) (hx : a.eval x = .slice (some ad) S.length c)
    (hnews : ∀ j, j < S.length → w.cell? (ad.add j) = some (.int .u8 (S.getD j 0).toNat)) (h0 : 0 < S.length) (h48 : S.length ≤ 140737488351232)
    (h : ∀ z cap w', Blk w' w.heap.size 5 ((bcells S).toArray ++ z) → Below w.heap.size w w' → wpList Try.prog ops Q rest (a.put o.dst (.slice (some ⟨w.heap.size, 0, none⟩) S.length cap)) w') : wpList Try.prog ops Q (o :: rest) a w := by
  obtain ⟨i0, hi, hz0, hz1, hz2⟩ := info_parts info5
  have hr := run_append_nil (P := Try.prog) w 27 o.type 5 i0 (.int .u8 0) Try.underlying27 hi hz0 ad S.length c (bcells S) (by simp [bcells, hz1]) (fun j v hj => by
    simp only [bcells, List.getElem?_map, Option.map_eq_some_iff] at hj
    obtain ⟨x, hx, rfl⟩ := hj
    have hl : j < S.length := (List.getElem?_eq_some_iff.1 hx).1
    rw [hnews j hl]
    simp [List.getD, hx]) h0 (by omega) (by rw [hz2]; omega)
  refine wpList_plain hgd fun K hK => ?_
  unfold Oper.wp execOp
  simp only [ho, resolve, invoke, builtin, Sem.run_bind, Sem.run_pure, Result.andThen_ok, List.map_toArray, List.map_cons, List.map_nil, hs, hx, hr]
  exact hK _ _ (h _ _ _ (Blk.new w.drew _ _) ((Below.refl _ w).drew.alloc (Nat.le_refl _) _))
end Go.Proofs.Ytmpkcehjmjopdaa
