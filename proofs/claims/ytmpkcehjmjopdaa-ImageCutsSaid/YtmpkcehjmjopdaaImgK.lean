import Derived.Test.YtmpkcehjmjopdaaImgJ
namespace Go.Proofs.Ytmpkcehjmjopdaa
open Go.RowKit Go.Sort

theorem rdFold_lt {i m : Nat} : ∀ (L : List Wr) {a : Int × List UInt8}, a.1 < (m : Int) → (∀ x ∈ L, x.when_ < m) → (L.foldl (rdStep i) a).1 < (m : Int)
  | [], _, h, _ => h
  | x :: L, a, h, hx => rdFold_lt L (a := rdStep i a x) (by
      have := hx x (List.mem_cons_self ..)
      unfold rdStep; split
      · dsimp only; omega
      · exact h) (fun y hy => hx y (List.mem_cons_of_mem _ hy))
theorem rd_write {d : Dk} (o i : Nat) (s : List UInt8) (hs : s.length = 256) (hx : ∀ x ∈ d.ws, x.when_ < d.writes) (j : Nat) : (d.write o i s hs).rd j = if i = j then s else d.rd j := by
  have h1 : (d.write o i s hs).rd j = (rdStep j (d.ws.foldl (rdStep j) (-1, d.dur.getD j [])) ⟨d.writes, i, s, hs⟩).2 := by
    show ((d.ws ++ [(⟨d.writes, i, s, hs⟩ : Wr)]).foldl (rdStep j) (-1, d.dur.getD j [])).2 = _
    rw [List.foldl_append]; rfl
  have h2 := rdFold_lt (i := j) (m := d.writes) d.ws (a := (-1, d.dur.getD j [])) (by dsimp only; omega) hx
  rw [h1]
  unfold rdStep
  by_cases h : i = j
  · rw [if_pos ⟨h, h2⟩, if_pos h]
  · rw [if_neg (fun e => h e.1), if_neg h]; rfl
theorem DkAt.whens {w : World} {B g gd : Nat} {wv : Value} {d : Dk} (h : DkAt w B g gd wv d) : ∀ x ∈ d.ws, x.when_ < d.writes := fun x hx => (h.inn x hx).2
/-- a house by any number -/
theorem place_h (v : Int) (w : World) : ∃ h : Nat, 1 ≤ h ∧ h ≤ 16 ∧ plc v 16 = (h : Int) - 1 ∧ Calls Try.prog 23 #[.int .i64 v, .int .i64 16] w fun e w' => e = .returned (.int .i64 ((h : Int) - 1)) ∧ w = w' := by
  have p0 := plc_nonneg v (n := 16) (by omega)
  have p1 := plc_lt v (n := 16) (by omega)
  obtain ⟨h, hh⟩ : ∃ h : Nat, plc v 16 = (h : Int) - 1 := ⟨(plc v 16 + 1).toNat, by omega⟩
  refine ⟨h, by omega, by omega, hh, ?_⟩
  have := place_any v 16 w (by omega) (by omega)
  rwa [hh] at this
/-- a turned bit: no slot -/
theorem slGot_flip {x : Sl} {h g : Int} {s : List UInt8} (hsx : s = x.block h g) (k : Nat) (hk : k < 2048) : slGot (s.set (k / 8) (flip (s.getD (k / 8) 0) (k % 8))) = sayV none := by
  subst hsx
  exact slGot_bad (summed_flip (slot_summed x h g) (by omega) (by omega))
end Go.Proofs.Ytmpkcehjmjopdaa
