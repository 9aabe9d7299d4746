import Derived.Test.YtmpkcehjmjopdaaSlotD
import Derived.Deep.MidRow
import Derived.Laws.StructEq
import Derived.ChangeKeysEq
namespace Go.Proofs.Ytmpkcehjmjopdaa
open Go.RowKit

theorem nin_any (v a b : Int) (w : World) : Calls Try.prog 72 #[.int .i64 v, .int .i64 a, .int .i64 b] w fun e w' => e = .returned (.bool (inb v a b)) ∧ w = w' := by
  by_cases h1 : a ≤ v
  · by_cases h2 : v ≤ b
    · have hr : Hid (inb v a b = true) := by show _ = _; simp [inb, h1, h2]
      go_enter Try.func72, Try.ntmps72
      go_wp2
      go_ret
      exact ⟨by rw [hr.out]; rfl, rfl⟩
    · have hr : Hid (inb v a b = false) := by show _ = _; simp [inb]; omega
      go_enter Try.func72, Try.ntmps72
      go_wp2
      go_ret
      exact ⟨by rw [hr.out]; rfl, rfl⟩
  · have hr : Hid (inb v a b = false) := by show _ = _; simp [inb]; omega
    go_enter Try.func72, Try.ntmps72
    go_wp2
    go_ret
    exact ⟨by rw [hr.out]; rfl, rfl⟩
theorem nrefin_any (v a b : Int) (w : World) : Calls Try.prog 73 #[.int .i64 v, .int .i64 a, .int .i64 b] w fun e w' => e = .returned (.bool (inb v a b)) ∧ w = w' := by
  by_cases h1 : a ≤ v
  · by_cases h2 : v ≤ b
    · have hr : Hid (inb v a b = true) := by show _ = _; simp [inb, h1, h2]
      go_enter Try.func73, Try.ntmps73
      go_wp2
      go_ret
      exact ⟨by rw [hr.out]; rfl, rfl⟩
    · have hr : Hid (inb v a b = false) := by show _ = _; simp [inb]; omega
      go_enter Try.func73, Try.ntmps73
      go_wp2
      go_ret
      exact ⟨by rw [hr.out]; rfl, rfl⟩
  · have hr : Hid (inb v a b = false) := by show _ = _; simp [inb]; omega
    go_enter Try.func73, Try.ntmps73
    go_wp2
    go_ret
    exact ⟨by rw [hr.out]; rfl, rfl⟩

/-- a node's numbers -/
structure Nd where
  (num kind links size time : Int)
  p : List Int
  hp : p.length = 14
def icells (l : List Int) : List Value := l.map fun m => .int .i64 m
def Nd.cells (x : Nd) : Array Value := (.int .i64 x.num :: .int .i64 x.kind :: .int .i64 x.links :: .int .i64 x.size :: .int .i64 x.time :: icells x.p).toArray
def Nd.chkA (x : Nd) : Bool := inb x.num 1 255 && inb x.kind 1 2 && inb x.links 0 100 && inb x.size 0 150528 && (x.kind != 2 || x.size.tmod 256 == 0) && inb x.time 0 1099511627776
def Nd.chk (x : Nd) : Bool := x.chkA && (x.p.all fun m => inb m 0 16383)

theorem icells_size (x : Nd) : (icells x.p).length = 14 := by simp [icells, x.hp]
theorem icells_get (l : List Int) (k : Nat) (h : k < l.length) : (icells l)[k]? = some (.int .i64 (l.getD k 0)) := by
  simp [icells, List.getD, h]
theorem Nd.cells_size (x : Nd) : x.cells.size = 19 := by simp [Nd.cells, icells_size]
theorem Nd.cell0 (x : Nd) : x.cells[0]? = some (.int .i64 x.num) := by simp [Nd.cells]
theorem Nd.cell1 (x : Nd) : x.cells[1]? = some (.int .i64 x.kind) := by simp [Nd.cells]
theorem Nd.cell2 (x : Nd) : x.cells[2]? = some (.int .i64 x.links) := by simp [Nd.cells]
theorem Nd.cell3 (x : Nd) : x.cells[3]? = some (.int .i64 x.size) := by simp [Nd.cells]
theorem Nd.cell4 (x : Nd) : x.cells[4]? = some (.int .i64 x.time) := by simp [Nd.cells]
theorem Nd.cellp (x : Nd) (k : Nat) (h : k < 14) : x.cells[5 + k]? = some (.int .i64 (x.p.getD k 0)) := by
  have := icells_get x.p k (by rw [x.hp]; exact h)
  simp only [Nd.cells, List.getElem?_toArray]
  rw [show 5 + k = k + 1 + 1 + 1 + 1 + 1 by omega]
  simpa using this
theorem ncells_one (x : Nd) : x.cells.all (·.oneCell') = true := by
  simp [Nd.cells, icells, Value.oneCell']

theorem ld65 (v : Value) : Instr.loadAt 65 v = ldV 65 v := rfl
theorem st65 (v u : Value) : Instr.storeAt 65 v u = stV 65 v u := rfl
theorem ld63 (v : Value) : Instr.loadAt 63 v = ldV 63 v := rfl
theorem run_ldN {w : World} {b : Nat} {x : Nd} (h : Blk w b 65 x.cells) : (ldV 65 (.pointer (some ⟨b, 0, none⟩))).run Try.prog w = .ok (.agg x.cells) w := by
  simp only [ldV, Instr.loadAt, Instr.sureAddr, Sem.run_bind, Sem.run_pure, Result.andThen_ok]
  exact run_loadVar_row w b 65 65 x.cells (0, 0) _ h Try.underlying65 rfl (by rw [x.cells_size]; kernel_rfl)
theorem run_stN {w : World} {b : Nat} {cs : Array Value} {x : Nd} (h : Blk w b 65 cs) (hc : cs.size = 19) : (stV 65 (.pointer (some ⟨b, 0, none⟩)) (.agg x.cells)).run Try.prog w = .ok () (w.setRow b x.cells) := by
  simp only [stV, Instr.storeAt, Instr.sureAddr, Sem.run_bind, Sem.run_pure, Result.andThen_ok]
  exact run_storeVar_row w b 65 65 cs x.cells h (by rw [x.cells_size]; kernel_rfl) (by rw [x.cells_size]; exact hc) (ncells_one x)
theorem run_ldP {w : World} {b : Nat} {x : Nd} (h : Blk w b 65 x.cells) : (ldV 63 (.pointer (some ⟨b, 5, none⟩))).run Try.prog w = .ok (.agg (icells x.p).toArray) w := by
  refine run_loadAt_mid w b 5 63 (icells x.p) _ (fun j v hj => ?_) Try.underlying63 rfl (by rw [icells_size]; kernel_rfl)
  have hl : j < (icells x.p).length := (List.getElem?_eq_some_iff.1 hj).1
  have h14 : j < 14 := by rw [icells_size] at hl; exact hl
  rw [h.cell, x.cellp j h14, ← hj, icells_get x.p j (by rw [x.hp]; exact h14)]
theorem part3 {xs : Array Value} {off : Nat} {v : Value} (hx : xs[off]? = some v) (w : World) : (part 3 xs off).run Try.prog w = .ok v w := run_part_plain w (by kernel_rfl) hx
theorem size3 (w : World) : (sizeOf 3).run Try.prog w = .ok 1 w := by kernel_rfl
theorem idx14 (x : Nd) (k : Nat) (hk : k < 14) (w : World) : (Instr.index 63 (.agg (icells x.p).toArray) (.int .i64 (k : Int))).run Try.prog w = .ok (.int .i64 (x.p.getD k 0)) w := by
  have hp := part3 (xs := (icells x.p).toArray) (off := k) (by rw [List.getElem?_toArray]; exact icells_get x.p k (by rw [x.hp]; exact hk)) w
  have h0 : (0 : Int) ≤ k ∧ (k : Int) < 14 := by omega
  simp only [Instr.index, asIntOf, Sem.run_bind, Sem.run_pure, run_underlying Try.underlying63, Result.andThen_ok]
  have : ((14 : Nat) : Int) = 14 := rfl
  simp only [this, if_pos h0, Sem.run_bind, size3, Result.andThen_ok, Int.toNat_natCast, Nat.mul_one, hp]

theorem items_ok (d : Nat) (xs ys : Array Value) (w : World) : ∀ (is : List Nat), (∀ i ∈ is, ∃ a b : Int, xs[i]? = some (.int .i64 a) ∧ ys[i]? = some (.int .i64 b)) →
    ∃ r, (Op.eqItems (d + 1) 3 1 xs ys is).run Try.prog w = .ok r w
  | [], _ => ⟨true, by simp [Op.eqItems]⟩
  | i :: is, h => by
    obtain ⟨a, b, ha, hb⟩ := h i (List.mem_cons_self ..)
    obtain ⟨r, hr⟩ := items_ok d xs ys w is (fun j hj => h j (List.mem_cons_of_mem _ hj))
    simp only [Op.eqItems, Sem.run_bind, Nat.mul_one, part3 ha, part3 hb, run_equalIn_int w d 3 .i64 .i64 a b Try.underlying3, Result.andThen_ok]
    cases hab : (a == b)
    · exact ⟨false, by simp⟩
    · exact ⟨r, by simpa using hr⟩
theorem fld_int {d : Nat} {xs ys : Array Value} {f : Field} {fs : List Field} {w : World} {a b : Int} (hn : f.name ≠ "_") (ht : f.type = 3) (ha : xs[f.offset]? = some (.int .i64 a)) (hb : ys[f.offset]? = some (.int .i64 b))
    (h : ∃ r, (Op.eqFields (d + 1) xs ys fs).run Try.prog w = .ok r w) : ∃ r, (Op.eqFields (d + 1) xs ys (f :: fs)).run Try.prog w = .ok r w ∧ (r = true → a = b) := by
  obtain ⟨r, hr⟩ := h
  rw [Op.eqFields, if_pos hn, ht]
  simp only [Sem.run_bind, part3 ha, part3 hb, run_equalIn_int w d 3 .i64 .i64 a b Try.underlying3, Result.andThen_ok]
  cases hab : (a == b)
  · exact ⟨false, by simp, by simp⟩
  · exact ⟨r, by simpa using hr, fun _ => by simpa using hab⟩
theorem fld_int' {d : Nat} {xs ys : Array Value} {f : Field} {fs : List Field} {w : World} {a b : Int} (hn : f.name ≠ "_") (ht : f.type = 3) (ha : xs[f.offset]? = some (.int .i64 a)) (hb : ys[f.offset]? = some (.int .i64 b))
    (h : ∃ r, (Op.eqFields (d + 1) xs ys fs).run Try.prog w = .ok r w) : ∃ r, (Op.eqFields (d + 1) xs ys (f :: fs)).run Try.prog w = .ok r w := by
  obtain ⟨r, h1, _⟩ := fld_int hn ht ha hb h
  exact ⟨r, h1⟩
theorem nfields : (Try.prog.fieldsOf 65).toList =
    [{ name := "Num", type := 3, offset := 0, embedded := false, tag := "", pkgPath := "", byteOffset := 0 },
     { name := "Kind", type := 3, offset := 1, embedded := false, tag := "", pkgPath := "", byteOffset := 8 },
     { name := "Links", type := 3, offset := 2, embedded := false, tag := "", pkgPath := "", byteOffset := 16 },
     { name := "Size", type := 3, offset := 3, embedded := false, tag := "", pkgPath := "", byteOffset := 24 },
     { name := "Time", type := 3, offset := 4, embedded := false, tag := "", pkgPath := "", byteOffset := 32 },
     { name := "Ptr", type := 63, offset := 5, embedded := false, tag := "", pkgPath := "", byteOffset := 40 }] := by kernel_rfl
/-- a node of nothing but 0 -/
def ndZero : Nd := ⟨0, 0, 0, 0, 0, [0, 0, 0, 0, 0, 0, 0, 0, 0, 0, 0, 0, 0, 0], rfl⟩
theorem nd_extract (x : Nd) : x.cells.extract 5 (5 + 14) = (icells x.p).toArray := by
  apply Array.ext'
  have h := icells_size x
  simp [Nd.cells, List.take_of_length_le, h]
theorem ndPart (x : Nd) (w : World) : (part 63 x.cells 5).run Try.prog w = .ok (.agg (icells x.p).toArray) w := by
  have h1 : (isAgg 63).run Try.prog w = .ok true w := by kernel_rfl
  have h2 : (sizeOf 63).run Try.prog w = .ok 14 w := by kernel_rfl
  simp only [part, Sem.run_bind, h1, h2, Result.andThen_ok, if_true, Sem.run_pure, nd_extract]
theorem info3 : ∃ i, Try.prog.info? 3 = some i := info_of_underlying Try.underlying3
theorem ndArr (d : Nat) (x y : Nd) (w : World) : ∃ r, (Op.equalIn (d + 2) 63 (.agg (icells x.p).toArray) (.agg (icells y.p).toArray)).run Try.prog w = .ok r w := by
  obtain ⟨i3, h3⟩ := info3
  rw [run_equalIn_array w (d + 1) _ _ Try.underlying63 h3, show Try.prog.cellsOf 3 = 1 by kernel_rfl]
  refine items_ok d _ _ w _ (fun i hi => ?_)
  have hi : i < 14 := by simpa using hi
  exact ⟨_, _, by rw [List.getElem?_toArray]; exact icells_get x.p i (by rw [x.hp]; exact hi), by rw [List.getElem?_toArray]; exact icells_get y.p i (by rw [y.hp]; exact hi)⟩
theorem ndLast (d : Nat) (x y : Nd) (w : World) : ∃ r, (Op.eqFields (d + 2) x.cells y.cells [{ name := "Ptr", type := 63, offset := 5, embedded := false, tag := "", pkgPath := "", byteOffset := 40 }]).run Try.prog w = .ok r w := by
  obtain ⟨ra, hra⟩ := ndArr d x y w
  refine ⟨ra, ?_⟩
  simp only [Op.eqFields]
  rw [if_pos (by decide)]
  simp only [Sem.run_bind, ndPart, hra, Result.andThen_ok]
  cases ra <;> simp
theorem ndEq (d : Nat) (x y : Nd) (w : World) : ∃ r, (Op.equalIn (d + 3) 65 (.agg x.cells) (.agg y.cells)).run Try.prog w = .ok r w ∧ (r = true → x.num = y.num) := by
  rw [run_equalIn_struct w (d + 2) 65 _ _ (by kernel_rfl) (by kernel_rfl), nfields]
  exact fld_int (by decide) rfl x.cell0 y.cell0
    (fld_int' (by decide) rfl x.cell1 y.cell1
    (fld_int' (by decide) rfl x.cell2 y.cell2
    (fld_int' (by decide) rfl x.cell3 y.cell3
    (fld_int' (by decide) rfl x.cell4 y.cell4 (ndLast d x y w)))))
theorem ndNe (x y : Nd) (w : World) : ∃ B : Bool, (binOp .neq 65 (.agg x.cells) (.agg y.cells)).run Try.prog w = .ok (.bool B) w ∧ (B = false → x.num = y.num) := by
  obtain ⟨r, hr, hn⟩ := ndEq 9997 x y w
  have hr' : (Op.equalIn 10000 65 (.agg x.cells) (.agg y.cells)).run Try.prog w = .ok r w := hr
  rw [run_neq_struct, hr']
  exact ⟨!r, rfl, fun h => hn (by simpa using h)⟩
end Go.Proofs.Ytmpkcehjmjopdaa
