import Derived.Test.YtmpkcehjmjopdaaNodeD
namespace Go.Proofs.Ytmpkcehjmjopdaa
open Go.RowKit

theorem nd_eq (x : Nd) : x.block = [66, 71, 78, 68] ++ les x.num.toNat 1 ++ les x.kind.toNat 1 ++ les x.links.toNat 1 ++ les x.size.toNat 4 ++ les x.time.toNat 6 ++ x.p.flatMap (fun m => les m.toNat 2) ++ zeros207 ++ les (Bq.crc x.body) 4 := rfl
theorem nd_num (x : Nd) (hv : x.num.toNat < 256 ^ 1) : num x.block 4 1 = x.num.toNat :=
  num_les (p := [66, 71, 78, 68]) (r := les x.kind.toNat 1 ++ les x.links.toNat 1 ++ les x.size.toNat 4 ++ les x.time.toNat 6 ++ x.p.flatMap (fun m => les m.toNat 2) ++ zeros207 ++ les (Bq.crc x.body) 4) (by rw [nd_eq]; simp only [List.append_assoc]) rfl hv
theorem nd_kind (x : Nd) (hv : x.kind.toNat < 256 ^ 1) : num x.block 5 1 = x.kind.toNat :=
  num_les (p := [66, 71, 78, 68] ++ les x.num.toNat 1) (r := les x.links.toNat 1 ++ les x.size.toNat 4 ++ les x.time.toNat 6 ++ x.p.flatMap (fun m => les m.toNat 2) ++ zeros207 ++ les (Bq.crc x.body) 4) (by rw [nd_eq]; simp only [List.append_assoc]) (by simp [les_length]) hv
theorem nd_links (x : Nd) (hv : x.links.toNat < 256 ^ 1) : num x.block 6 1 = x.links.toNat :=
  num_les (p := [66, 71, 78, 68] ++ les x.num.toNat 1 ++ les x.kind.toNat 1) (r := les x.size.toNat 4 ++ les x.time.toNat 6 ++ x.p.flatMap (fun m => les m.toNat 2) ++ zeros207 ++ les (Bq.crc x.body) 4) (by rw [nd_eq]; simp only [List.append_assoc]) (by simp [les_length]) hv
theorem nd_size (x : Nd) (hv : x.size.toNat < 256 ^ 4) : num x.block 7 4 = x.size.toNat :=
  num_les (p := [66, 71, 78, 68] ++ les x.num.toNat 1 ++ les x.kind.toNat 1 ++ les x.links.toNat 1) (r := les x.time.toNat 6 ++ x.p.flatMap (fun m => les m.toNat 2) ++ zeros207 ++ les (Bq.crc x.body) 4) (by rw [nd_eq]; simp only [List.append_assoc]) (by simp [les_length]) hv
theorem nd_time (x : Nd) (hv : x.time.toNat < 256 ^ 6) : num x.block 11 6 = x.time.toNat :=
  num_les (p := [66, 71, 78, 68] ++ les x.num.toNat 1 ++ les x.kind.toNat 1 ++ les x.links.toNat 1 ++ les x.size.toNat 4) (r := x.p.flatMap (fun m => les m.toNat 2) ++ zeros207 ++ les (Bq.crc x.body) 4) (by rw [nd_eq]; simp only [List.append_assoc]) (by simp [les_length]) hv
theorem nd_ptr (x : Nd) (k : Nat) (hk : k < 14) (hv : (x.p.getD k 0).toNat < 256 ^ 2) : num x.block (17 + 2 * k) 2 = (x.p.getD k 0).toNat := by
  have hkl : k < x.p.length := by rw [x.hp]; exact hk
  refine num_les (p := x.front ++ (x.p.take k).flatMap (fun m => les m.toNat 2)) (r := (x.p.drop (k + 1)).flatMap (fun m => les m.toNat 2) ++ zeros207 ++ les (Bq.crc x.body) 4) ?_ ?_ hv
  · have hs : x.p = x.p.take k ++ x.p.getD k 0 :: x.p.drop (k + 1) := by
      have : x.p.drop k = x.p.getD k 0 :: x.p.drop (k + 1) := by
        rw [List.drop_eq_getElem_cons hkl]; simp [List.getD, hkl]
      rw [← this, List.take_append_drop]
    have hf : x.p.flatMap (fun m => les m.toNat 2) = (x.p.take k).flatMap (fun m => les m.toNat 2) ++ (les (x.p.getD k 0).toNat 2 ++ (x.p.drop (k + 1)).flatMap (fun m => les m.toNat 2)) := by
      conv => lhs; rw [hs]
      rw [List.flatMap_append, List.flatMap_cons]
    show x.front ++ x.p.flatMap (fun m => les m.toNat 2) ++ zeros207 ++ les (Bq.crc x.body) 4 = _
    rw [hf]
    simp only [List.append_assoc]
  · rw [List.length_append, x.front_length, flat_len, List.length_take, x.hp]; omega

theorem ext_getD {a b : List Int} (h : a.length = b.length) (hk : ∀ k, k < a.length → a.getD k 0 = b.getD k 0) : a = b := by
  refine List.ext_getElem h fun k h1 h2 => ?_
  have := hk k h1
  simpa [List.getD, h1, h2] using this
theorem nd_back {x : Nd} (hok : x.chk = true) : ndRead x.block = x := by
  obtain ⟨⟨a1, b1⟩, ⟨a2, b2⟩, ⟨a3, b3⟩, ⟨a4, b4⟩, ⟨a5, b5⟩, hp⟩ := Nd.chk_bounds hok
  have e1 := nd_num x (by omega)
  have e2 := nd_kind x (by omega)
  have e3 := nd_links x (by omega)
  have e4 := nd_size x (by omega)
  have e5 := nd_time x (by omega)
  have e6 : (ndRead x.block).p = x.p := by
    refine ext_getD (by rw [(ndRead x.block).hp, x.hp]) fun k h2 => ?_
    have hk : k < 14 := by rw [(ndRead x.block).hp] at h2; exact h2
    obtain ⟨c, d⟩ := hp k hk
    rw [ndRead_p x.block k hk, nd_ptr x k hk (by omega)]
    omega
  have f1 : (ndRead x.block).num = x.num := by show ((num x.block 4 1 : Nat) : Int) = _; rw [e1]; omega
  have f2 : (ndRead x.block).kind = x.kind := by show ((num x.block 5 1 : Nat) : Int) = _; rw [e2]; omega
  have f3 : (ndRead x.block).links = x.links := by show ((num x.block 6 1 : Nat) : Int) = _; rw [e3]; omega
  have f4 : (ndRead x.block).size = x.size := by show ((num x.block 7 4 : Nat) : Int) = _; rw [e4]; omega
  have f5 : (ndRead x.block).time = x.time := by show ((num x.block 11 6 : Nat) : Int) = _; rw [e5]; omega
  generalize ndRead x.block = y at *
  obtain ⟨_, _, _, _, _, _, _⟩ := y
  obtain ⟨_, _, _, _, _, _, _⟩ := x
  dsimp only at f1 f2 f3 f4 f5 e6
  subst f1 f2 f3 f4 f5 e6
  rfl
theorem nd_good {x : Nd} (hok : x.chk = true) : ndGood x.block = true := by
  unfold ndGood
  rw [nd_back hok, hok]; simp
theorem ndGood_summed {l : List UInt8} (h : ndGood l = true) : Summed l := by
  unfold ndGood at h
  simp only [Bool.and_eq_true, decide_eq_true_eq] at h
  rw [← h.2]
  exact nd_summed _
theorem ndGot_block {x : Nd} (hok : x.chk = true) : ndGot x.block = .tuple #[.agg x.cells, .bool true] := by
  unfold ndGot
  rw [nd_good hok, nd_back hok]; rfl
theorem ndGot_bad {l : List UInt8} (h : ¬ Summed l) : ndGot l = .tuple #[.agg ndZero.cells, .bool false] := by
  have : ndGood l = false := by
    cases hg : ndGood l
    · rfl
    · exact absurd (ndGood_summed hg) h
  unfold ndGot
  rw [this]; rfl
theorem ndGot_z : ndGot zeros256 = .tuple #[.agg ndZero.cells, .bool false] := by
  have h0 : num zeros256 4 1 = 0 := by decide +kernel
  have : ndGood zeros256 = false := by
    unfold ndGood Nd.chk Nd.chkA
    have h1 : (ndRead zeros256).num = 0 := by show ((num zeros256 4 1 : Nat) : Int) = _; rw [h0]; rfl
    rw [h1]; rfl
  unfold ndGot
  rw [this]; rfl
end Go.Proofs.Ytmpkcehjmjopdaa
