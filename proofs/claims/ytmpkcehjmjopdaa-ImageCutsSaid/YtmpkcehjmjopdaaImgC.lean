import Derived.Test.YtmpkcehjmjopdaaImgB
import Derived.Deep.DeepCutAuto
namespace Go.Proofs.Ytmpkcehjmjopdaa
open Go.RowKit

/-- what was written to a sector last, over what is durable: one write more -/
def rdStep (i : Nat) (a : Int × List UInt8) (x : Wr) : Int × List UInt8 := if x.i = i ∧ a.1 < x.when_ then (x.when_, x.s) else a
def Dk.rdUpto (d : Dk) (i k : Nat) : Int × List UInt8 := (if d.own < k then d.ws else []).foldl (rdStep i) (-1, d.dur.getD i [])
def Dk.rd (d : Dk) (i : Nat) : List UInt8 := (d.ws.foldl (rdStep i) (-1, d.dur.getD i [])).2
/-- the list of an owner -/
def Dk.list (d : Dk) (k : Nat) : List Wr := if k = d.own then d.ws else []
theorem Dk.rd_zero (d : Dk) (i : Nat) : d.rdUpto i 0 = (-1, d.dur.getD i []) := by simp [Dk.rdUpto]
theorem Dk.rd_step (d : Dk) (i k : Nat) : d.rdUpto i (k + 1) = (d.list k).foldl (rdStep i) (d.rdUpto i k) := by
  unfold Dk.rdUpto Dk.list
  by_cases h : k = d.own
  · subst h; simp
  · rw [if_neg h]
    by_cases h2 : d.own < k
    · rw [if_pos h2, if_pos (by omega)]; rfl
    · rw [if_neg h2, if_neg (by omega)]; rfl
theorem Dk.rd_end (d : Dk) (i : Nat) (h : d.own < 17) : d.rdUpto i 17 = d.ws.foldl (rdStep i) (-1, d.dur.getD i []) := by
  unfold Dk.rdUpto; rw [if_pos h]
theorem rdStep_len {i : Nat} {a : Int × List UInt8} {x : Wr} (h : a.2.length = 256) : (rdStep i a x).2.length = 256 := by
  unfold rdStep; split
  · exact x.hs
  · exact h
theorem rdFold_len {i : Nat} : ∀ (L : List Wr) {a : Int × List UInt8}, a.2.length = 256 → (L.foldl (rdStep i) a).2.length = 256
  | [], _, h => h
  | _ :: L, _, h => rdFold_len L (rdStep_len h)
theorem rdFold_take {i j : Nat} {L : List Wr} {a : Int × List UInt8} (h : j < L.length) : (L.take (j + 1)).foldl (rdStep i) a = rdStep i ((L.take j).foldl (rdStep i) a) L[j] := by
  rw [List.take_succ_eq_append_getElem h, List.foldl_append]; rfl
theorem rdStep_bound {i : Nat} {a : Int × List UInt8} {x : Wr} (h : -1 ≤ a.1 ∧ a.1 ≤ 1000000) (hx : x.when_ < 1000000) : -1 ≤ (rdStep i a x).1 ∧ (rdStep i a x).1 ≤ 1000000 := by
  unfold rdStep; split
  · dsimp only; omega
  · exact h
theorem rdFold_bound {i : Nat} : ∀ (L : List Wr) {a : Int × List UInt8}, (-1 ≤ a.1 ∧ a.1 ≤ 1000000) → (∀ x ∈ L, x.when_ < 1000000) → -1 ≤ (L.foldl (rdStep i) a).1 ∧ (L.foldl (rdStep i) a).1 ≤ 1000000
  | [], _, h, _ => h
  | x :: L, _, h, hx => rdFold_bound L (rdStep_bound h (hx x (List.mem_cons_self ..))) (fun y hy => hx y (List.mem_cons_of_mem _ hy))

namespace DkAt
variable {w w' : World} {B g gd : Nat} {wv : Value} {d : Dk}
theorem rowk (h : DkAt w B g gd wv d) (k : Nat) : w.ownsRow B 91 258 (if k = d.own then wv else .slice none 0 0) (d.list k).length (wcells (d.list k)) := by
  unfold Dk.list
  by_cases hk : k = d.own
  · rw [if_pos hk, if_pos hk]; exact h.row
  · rw [if_neg hk, if_neg hk]; exact World.ownsRow_nil _ _ _ _
theorem range84 (h : DkAt w B g gd wv d) : w.rangeAt g 1 (dkWaits d.own wv) := by
  intro j v hv
  have hj : j < 17 := by have := (List.getElem?_eq_some_iff.1 hv).1; rwa [dkWaits_length] at this
  rw [h.cw j hj, ← hv, dkWaits_get _ _ _ hj]
theorem ld84 (h : DkAt w B g gd wv d) : (ldV 84 (.pointer (some ⟨g, 1, none⟩))).run Try.prog w = .ok (.agg (dkWaits d.own wv).toArray) w :=
  run_loadAt_mid w g 1 84 _ _ h.range84 Try.underlying84 rfl (by rw [dkWaits_length]; exact size84)
theorem ld89 (h : DkAt w B g gd wv d) (i : Nat) (hi : i < d.dur.length) : (ldV 89 (.pointer (some ⟨gd, i * 256, none⟩))).run Try.prog w = .ok (.agg (bcells (d.dur.getD i [])).toArray) w :=
  run_ldm89 (dcells_range h.sec h.dur i hi) (dur_len h.dur i hi)
end DkAt
theorem size83 (w : World) : (sizeOf 83).run Try.prog w = .ok 1 w := by kernel_rfl
theorem run_ix84 (own : Nat) (wv : Value) (k : Nat) (hk : k < 17) (w : World) : (ixV 84 (.agg (dkWaits own wv).toArray) (.int .i64 k)).run Try.prog w = .ok (if k = own then wv else .slice none 0 0) w := by
  have hp : (part 83 (dkWaits own wv).toArray k).run Try.prog w = .ok (if k = own then wv else .slice none 0 0) w := by
    have h1 : (isAgg 83).run Try.prog w = .ok false w := by kernel_rfl
    have h2 : (dkWaits own wv).toArray[k]? = some (if k = own then wv else .slice none 0 0) := by rw [List.getElem?_toArray]; exact dkWaits_get _ _ _ hk
    simp only [part, Sem.run_bind, h1, Result.andThen_ok, Bool.false_eq_true, if_false, h2, Sem.run_pure]
  have h0 : (0 : Int) ≤ k ∧ (k : Int) < 17 := by omega
  simp only [ixV, Instr.index, asIntOf, Sem.run_bind, Sem.run_pure, run_underlying Try.underlying84, Result.andThen_ok]
  have : ((17 : Nat) : Int) = 17 := rfl
  simp only [this, if_pos h0, Sem.run_bind, size83, Result.andThen_ok, Int.toNat_natCast, Nat.mul_one, hp]
theorem ownsRow_shape {w : World} {B : Nat} {e : TypeId} {size : Nat} {v : Value} {n : Nat} {xs : List Value} (h : w.ownsRow B e size v n xs) : ∃ p cap, v = .slice p n cap ∧ (0 < n → ∃ b, p = some ⟨b, 0, none⟩) := by
  rcases h.2 with ⟨rfl, rfl⟩ | ⟨g, cap, cur, hv, _⟩
  · exact ⟨none, 0, rfl, by omega⟩
  · exact ⟨_, _, hv, fun _ => ⟨g, rfl⟩⟩
theorem blk_whole {w : World} {b : Nat} {t : TypeId} {s s' : List UInt8} (h : Blk w b t (bcells s).toArray) (h1 : s.length = 256) (h2 : s'.length = 256) : Blk (w.setCells b 0 (bcells s')) b t (bcells s').toArray := by
  have h3 := h.setCells (bcells s') 0
  have h4 := putAt_mid (bcells s') (bcells s) [] (by rw [bcells_length, bcells_length, h1, h2]) []
  simp only [List.nil_append, List.append_nil, List.length_nil] at h4
  rwa [h4] at h3
theorem there_whole {w : World} {b : Nat} {t : TypeId} {s : List UInt8} (h : Blk w b t (bcells s).toArray) (h1 : s.length = 256) : w.there b 0 256 := by
  intro j hj
  refine ⟨?_, h.frozen _⟩
  rw [h.cell, List.getElem?_toArray, List.getElem?_eq_getElem (by rw [bcells_length, h1]; omega)]; rfl

section
attribute [local go_sem ↓] al89 al91 ld89 ld91 ld84 st89 st91 ix84
attribute [local go_sem] run_al89 run_al91
set_option maxRecDepth 100000 in
set_option maxHeartbeats 2000000 in
theorem dread {w : World} {B g gd : Nat} {wv : Value} {d : Dk} (h : DkAt w B g gd wv d) (i : Nat) (hi : i < d.dur.length) (hd : d.down = false) :
    Calls Try.prog 35 #[.pointer (some ⟨g, 0, none⟩), .int .i64 i] w fun e w' => e = .returned (.tuple #[.string ⟨(d.rd i).toArray⟩, .bool true]) ∧ Below w.heap.size w w' := by
  have H := Lib.hid h
  have c20 := h.c20
  rw [hd] at c20
  have hD : DkAt w.drew B g gd wv d := h.beyond (Below.refl _ w).drew
  have hA : DkAt (w.drew.alloc (.cells (bcells zeros256).toArray 89)) B g gd wv d := hD.beyond ((Below.refl _ _).alloc (Nat.le_refl _) _)
  have hE : DkAt (w.alloc (.cells (bcells zeros256).toArray 89)).drew B g gd wv d := hA
  have k2 := hE.c0
  have l2 := hE.ld89 i hi
  have hst2 : (stV 89 (.pointer (some ⟨w.heap.size, 0, none⟩)) (.agg (bcells (d.dur.getD i [])).toArray)).run Try.prog (w.alloc (.cells (bcells zeros256).toArray 89)).drew = .ok () (w.drew.alloc (.cells (bcells (d.dur.getD i [])).toArray 89)) := run_st89_new w.drew (d.dur.getD i []) (dur_len h.dur i hi)
  have k0 := hD.c0
  have k1 := hA.c0
  have l0 := hD.ld89 i hi
  have l1 := hA.ld89 i hi
  have hst := run_st89_new w.drew (d.dur.getD i []) (dur_len h.dur i hi)
  have hlen : i < d.dur.length := hi
  have HN := Lib.hid (dnone h i hi)
  clear hD hA hE h
  have hs0 := dur_len H.out.dur i hi
  have HI : Hid (d.rdUpto i 0 = (-1, d.dur.getD i [])) := d.rd_zero i
  generalize d.dur.getD i [] = s0 at *
  generalize d.dur.length = n at *
  go_enter Try.func35, Try.ntmps35
  go_wp2_with fail
  refine HN.out.mono ?_
  rintro e w' ⟨rfl, rfl⟩
  have hW : Below w.heap.size w (w.drew.alloc (.cells (bcells s0).toArray 89)) := ((Below.refl _ w).drew).alloc (Nat.le_refl _) _
  have hb7 : Blk (w.drew.alloc (.cells (bcells s0).toArray 89)) w.heap.size 89 (bcells s0).toArray := Blk.new w.drew 89 _
  go_upto_region 3 with fail
  go_cut [6, 7] (fun s6 s7 wx => s6 = .int .i64 (-1) ∧ s7 = .pointer (some ⟨w.heap.size, 0, none⟩) ∧ Blk wx w.heap.size 89 (bcells s0).toArray ∧ Below w.heap.size w wx)
  case first =>
    go_region
    all_goals
      go_wp2_with fail
      go_meet
      exact ⟨rfl, rfl, hb7, hW⟩
  case rest =>
    clear hb7 hW
    obtain ⟨rfl, rfl, hb7, hW⟩ := hcut
    clear k0 k1 k2 l0 l1 l2 hst hst2 c20 HN
    have hld := (H.out.beyond hW).ld84
    go_wp2_with fail
    clear hld
    go_loopw [6, 32] (fun x k wr => ∃ (k' : Nat) (st : Int × List UInt8), k' ≤ 17 ∧ k = .int .i64 k' ∧ x = .int .i64 st.1 ∧ Hid (st = d.rdUpto i k') ∧ st.2.length = 256 ∧ (-1 ≤ st.1 ∧ st.1 ≤ 1000000) ∧ Blk wr w.heap.size 89 (bcells st.2).toArray ∧ Below w.heap.size w wr) (fun _ k _ => 17 - (intOf k).toNat)
    case atStart => exact ⟨0, (-1, s0), by omega, rfl, rfl, HI.out.symm, hs0, ⟨Int.le_refl _, by show (-1 : Int) ≤ 1000000; decide⟩, hb7, hW⟩
    case round =>
      obtain ⟨k, st, hk, rfl, rfl, hst, hsl, hsb, hb7, hW⟩ := hrel
      clear HI hs0
      by_cases hk17 : k < 17
      · have hix := run_ix84 d.own wv k hk17
        have HR := Lib.hid (H.out.rowk k)
        have HS := Lib.hid (d.rd_step i k)
        have HF : Hid (∀ x ∈ d.list k, x.i < d.dur.length ∧ x.when_ < 1000000) := by
          intro x hx
          unfold Dk.list at hx
          split at hx
          · exact H.out.inn' x hx
          · cases hx
        have HW : Hid ((d.list k).length ≤ 1000) := by
          show _ ≤ _
          unfold Dk.list
          split
          · exact H.out.few
          · simp
        generalize (if k = d.own then wv else .slice none 0 0) = vk at *
        generalize d.list k = L at *
        obtain ⟨p, cap, hvk, hp⟩ := ownsRow_shape HR.out
        subst hvk
        have Hp := Lib.hid hp
        clear hp
        have hll : L.length ≤ 1000 := HW.out
        go_wp2_with fail
        clear hix
        go_loopw [6, 37] (fun x j wr => ∃ (j' : Nat) (sj : Int × List UInt8), j' ≤ L.length ∧ j = .int .i64 j' ∧ x = .int .i64 sj.1 ∧ Hid (sj = (L.take j').foldl (rdStep i) st) ∧ sj.2.length = 256 ∧ (-1 ≤ sj.1 ∧ sj.1 ≤ 1000000) ∧ Blk wr w.heap.size 89 (bcells sj.2).toArray ∧ Below w.heap.size w wr) (fun _ j _ => L.length - (intOf j).toNat)
        case atStart => exact ⟨0, st, by omega, rfl, rfl, by show _ = _; simp, hsl, hsb, hb7, hW⟩
        case round =>
          obtain ⟨j, sj, hj, rfl, rfl, hsj, hsjl, hsjb, hb7', hW'⟩ := hrel
          clear hb7 hW hsl hsb
          by_cases hjl : j < L.length
          · obtain ⟨b, rfl⟩ := Hp.out (by omega)
            have hrow := ownsRow_of_block (w' := wr) HR.out (fun k hk => hW'.block k (HR.out.lt k hk).2)
            have hrg := wcells_range hrow j hjl
            have hstep := Lib.hid (rdFold_take (i := i) (a := st) hjl)
            obtain ⟨hxn, hxw⟩ := HF.out L[j] (List.getElem_mem hjl)
            generalize L[j] = x at *
            obtain ⟨xw, xi, xs, xl⟩ := x
            dsimp only [Wr.cells] at hrg hxn hxw
            have l91 := run_ldm91 hrg xl
            have hst := run_st91_new wr xw xi xs xl
            have hB := Blk.new wr 91 (wrCells xw xi xs).toArray
            have hb7v := hb7'.alloc (.cells (wrCells xw xi xs).toArray 91)
            have hWv := hW'.alloc hW'.size (.cells (wrCells xw xi xs).toArray 91)
            have hne : w.heap.size ≠ wr.heap.size := by have := hb7'.lt; omega
            clear hrg hrow
            generalize wr.alloc (.cells (wrCells xw xi xs).toArray 91) = v1 at *
            have c0 : v1.cell? ⟨wr.heap.size, 0, none⟩ = some (.int .i64 xw) := hB.cell 0
            have c1 : v1.cell? ⟨wr.heap.size, 1, none⟩ = some (.int .i64 xi) := hB.cell 1
            by_cases hxi : xi = i
            · by_cases hlast : sj.1 < xw
              · have b1 : ((xi : Int) == (i : Int)) = true := by simp [hxi]
                have b2 : decide (sj.1 < (xw : Int)) = true := by simpa using hlast
                have hE : Hid (rdStep i sj ⟨xw, xi, xs, xl⟩ = ((xw : Int), xs)) := by
                  show _ = _
                  unfold rdStep; rw [if_pos ⟨hxi, hlast⟩]
                have hr2 : v1.rangeAt wr.heap.size 2 (bcells xs) := by
                  intro q v hv
                  rw [hB.cell, List.getElem?_toArray, wrCells, Nat.add_comm]
                  exact hv
                have l89 := run_ldm89 ((World.rangeAt_drew _ _ _ _).2 hr2) xl
                have th := there_whole hb7v hsjl
                have s89 := run_stm89 ((World.there_drew _ _ _ _).2 th) xl
                have c0' : (v1.drew.setCells w.heap.size 0 (bcells xs)).cell? ⟨wr.heap.size, 0, none⟩ = some (.int .i64 xw) := (Blk.setCells_far (Ne.symm hne) (bcells xs) 0 hB.drew).cell 0
                have hb7n := blk_whole (s' := xs) hb7v.drew hsjl xl
                have hWn := below_setCells (Nat.le_refl w.heap.size) (bcells xs) 0 hWv.drew
                clear hb7v hWv hr2 th hB hb7' hW' hxi hlast
                go_wp2_with fail
                go_region
                all_goals
                  go_wp2_with fail
                  go_roundw
                  case rel => exact ⟨j + 1, ((xw : Int), xs), by omega, by go_num, rfl, by show _ = _; rw [hstep.out, ← hsj.out, hE.out], xl, by dsimp only; omega, hb7n, hWn⟩
                  case measure => simp [intOf]; omega
              · have b1 : ((xi : Int) == (i : Int)) = true := by simp [hxi]
                have b2 : decide (sj.1 < (xw : Int)) = false := by simpa using hlast
                have hE : Hid (rdStep i sj ⟨xw, xi, xs, xl⟩ = sj) := by
                  show _ = _
                  unfold rdStep; rw [if_neg (fun hc => hlast hc.2)]
                clear hB hb7' hW' hxi
                go_wp2_with fail
                go_roundw
                case rel => exact ⟨j + 1, sj, by omega, by go_num, rfl, by show _ = _; rw [hstep.out, ← hsj.out, hE.out], hsjl, hsjb, hb7v, hWv⟩
                case measure => simp [intOf]; omega
            · have b1 : ((xi : Int) == (i : Int)) = false := by rw [beq_eq_false_iff_ne]; omega
              have hE : Hid (rdStep i sj ⟨xw, xi, xs, xl⟩ = sj) := by
                show _ = _
                unfold rdStep; rw [if_neg (fun hc => hxi hc.1)]
              clear hB hb7' hW' hxi
              go_wp2_with fail
              go_roundw
              case rel => exact ⟨j + 1, sj, by omega, by go_num, rfl, by show _ = _; rw [hstep.out, ← hsj.out, hE.out], hsjl, hsjb, hb7v, hWv⟩
              case measure => simp [intOf]; omega
          · obtain rfl : j = L.length := by omega
            go_wp2_with fail
            go_roundw
            case rel => exact ⟨k + 1, sj, by omega, by go_num, rfl, by show _ = _; rw [hsj.out, List.take_length, hst.out, ← HS.out], hsjl, hsjb, hb7', hW'⟩
            case measure => simp [intOf]; omega
      · obtain rfl : k = 17 := by omega
        have hcv := conv_blk (W := wr) (g := w.heap.size) (t := 89) (l := st.2) (x := #[]) (by simpa using hb7) 256
        rw [hsl] at hcv
        go_wp2_with fail
        go_ret2
        refine ⟨?_, hW⟩
        rw [hst.out, d.rd_end i H.out.own]; rfl
end
end Go.Proofs.Ytmpkcehjmjopdaa
