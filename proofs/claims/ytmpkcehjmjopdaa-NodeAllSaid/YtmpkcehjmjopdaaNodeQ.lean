import Derived.Test.YtmpkcehjmjopdaaNodeR
namespace Go.Proofs.Ytmpkcehjmjopdaa
open Go.RowKit Go.Sort
theorem results49 {tmps : Array Value} {w : World} {b : Nat} {x : Nd} {v3 : Value} (h : Blk w b 65 x.cells) (h2 : tmps.getD 2 undef = .pointer (some ⟨b, 0, none⟩)) (h3 : tmps.getD 3 undef = v3) :
    (results Try.f49 tmps).run Try.prog w = .ok (.tuple #[.agg x.cells, v3]) w := by
  have h2' : tmps[2]?.getD undef = .pointer (some ⟨b, 0, none⟩) := by simpa using h2
  have h3' : tmps[3]?.getD undef = v3 := by simpa using h3
  simp [results, Try.results49, h2', h3', asAddr, run_loadVar_row w b 65 65 x.cells (0, 0) _ h Try.underlying65 rfl (by rw [x.cells_size]; kernel_rfl)]
section
attribute [local go_sem ↓] ld65 st65
set_option maxRecDepth 100000 in
set_option maxHeartbeats 4000000 in
theorem nrefget_full (s : ByteArray) (w : World) (h1 : s.size ≤ 256) (h2 : 256 ≤ s.size) :
    Calls Try.prog 49 #[.string s] w fun e w' => e = .returned (ndGot s.data.toList) ∧ Below w.heap.size w w' := by
  have hl : ((s.size : Int) != 256) = false := by simp; omega
  have hs4 : s.size ≤ 4611686018427387904 := by omega
  have N0 : Hid (∀ w, Calls Try.prog 71 #[.string s, .int .i64 4, .int .i64 1] w fun e w' => e = .returned (.int .i64 (num s.data.toList 4 1 : Nat)) ∧ w = w') := fun w => nrefnum_any s 4 1 w (by decide) (by decide) hs4
  have N1 : Hid (∀ w, Calls Try.prog 71 #[.string s, .int .i64 5, .int .i64 1] w fun e w' => e = .returned (.int .i64 (num s.data.toList 5 1 : Nat)) ∧ w = w') := fun w => nrefnum_any s 5 1 w (by decide) (by decide) hs4
  have N2 : Hid (∀ w, Calls Try.prog 71 #[.string s, .int .i64 6, .int .i64 1] w fun e w' => e = .returned (.int .i64 (num s.data.toList 6 1 : Nat)) ∧ w = w') := fun w => nrefnum_any s 6 1 w (by decide) (by decide) hs4
  have N3 : Hid (∀ w, Calls Try.prog 71 #[.string s, .int .i64 7, .int .i64 4] w fun e w' => e = .returned (.int .i64 (num s.data.toList 7 4 : Nat)) ∧ w = w') := fun w => nrefnum_any s 7 4 w (by decide) (by decide) hs4
  have N4 : Hid (∀ w, Calls Try.prog 71 #[.string s, .int .i64 11, .int .i64 6] w fun e w' => e = .returned (.int .i64 (num s.data.toList 11 6 : Nat)) ∧ w = w') := fun w => nrefnum_any s 11 6 w (by decide) (by decide) hs4
  have N9 : Hid (∀ k : Nat, k < 14 → ∀ w, Calls Try.prog 71 #[.string s, .int .i64 (17 + 2 * (k : Int)), .int .i64 2] w fun e w' => e = .returned (.int .i64 (num s.data.toList (17 + 2 * k) 2 : Nat)) ∧ w = w') := by
    intro k hk w
    have := nrefnum_any s (17 + 2 * k) 2 w (by decide) (by omega) hs4
    rwa [show ((17 + 2 * k : Nat) : Int) = 17 + 2 * (k : Int) by omega] at this
  have g1 : Blk (w.alloc (.cells #[.int .i64 0, .int .i64 0, .int .i64 0, .int .i64 0, .int .i64 0, .int .i64 0, .int .i64 0, .int .i64 0, .int .i64 0, .int .i64 0, .int .i64 0, .int .i64 0, .int .i64 0, .int .i64 0, .int .i64 0, .int .i64 0, .int .i64 0, .int .i64 0, .int .i64 0] 65)) w.heap.size 65 ndZero.cells := Blk.new w 65 _
  have gw : Below w.heap.size w (w.alloc (.cells #[.int .i64 0, .int .i64 0, .int .i64 0, .int .i64 0, .int .i64 0, .int .i64 0, .int .i64 0, .int .i64 0, .int .i64 0, .int .i64 0, .int .i64 0, .int .i64 0, .int .i64 0, .int .i64 0, .int .i64 0, .int .i64 0, .int .i64 0, .int .i64 0, .int .i64 0] 65)) := (Below.refl _ w).alloc (Nat.le_refl _) _
  have hst0 := nst_new (w.alloc (.cells #[.int .i64 0, .int .i64 0, .int .i64 0, .int .i64 0, .int .i64 0, .int .i64 0, .int .i64 0, .int .i64 0, .int .i64 0, .int .i64 0, .int .i64 0, .int .i64 0, .int .i64 0, .int .i64 0, .int .i64 0, .int .i64 0, .int .i64 0, .int .i64 0, .int .i64 0] 65)) ((ndRead s.data.toList).upto 0)
  rw [World.size_alloc] at hst0
  have hst : (stV 65 (.pointer (some ⟨w.heap.size + 1, 0, none⟩)) (.agg #[.int .i64 (num s.data.toList 4 1 : Nat), .int .i64 (num s.data.toList 5 1 : Nat), .int .i64 (num s.data.toList 6 1 : Nat), .int .i64 (num s.data.toList 7 4 : Nat), .int .i64 (num s.data.toList 11 6 : Nat), .int .i64 0, .int .i64 0, .int .i64 0, .int .i64 0, .int .i64 0, .int .i64 0, .int .i64 0, .int .i64 0, .int .i64 0, .int .i64 0, .int .i64 0, .int .i64 0, .int .i64 0, .int .i64 0])).run Try.prog ((w.alloc (.cells #[.int .i64 0, .int .i64 0, .int .i64 0, .int .i64 0, .int .i64 0, .int .i64 0, .int .i64 0, .int .i64 0, .int .i64 0, .int .i64 0, .int .i64 0, .int .i64 0, .int .i64 0, .int .i64 0, .int .i64 0, .int .i64 0, .int .i64 0, .int .i64 0, .int .i64 0] 65)).alloc (.cells #[.int .i64 0, .int .i64 0, .int .i64 0, .int .i64 0, .int .i64 0, .int .i64 0, .int .i64 0, .int .i64 0, .int .i64 0, .int .i64 0, .int .i64 0, .int .i64 0, .int .i64 0, .int .i64 0, .int .i64 0, .int .i64 0, .int .i64 0, .int .i64 0, .int .i64 0] 65)) = .ok () ((w.alloc (.cells #[.int .i64 0, .int .i64 0, .int .i64 0, .int .i64 0, .int .i64 0, .int .i64 0, .int .i64 0, .int .i64 0, .int .i64 0, .int .i64 0, .int .i64 0, .int .i64 0, .int .i64 0, .int .i64 0, .int .i64 0, .int .i64 0, .int .i64 0, .int .i64 0, .int .i64 0] 65)).alloc (.cells ((ndRead s.data.toList).upto 0).cells 65)) := hst0
  clear hst0
  have g2 := g1.alloc (.cells ((ndRead s.data.toList).upto 0).cells 65)
  have gx := Blk.new (w.alloc (.cells #[.int .i64 0, .int .i64 0, .int .i64 0, .int .i64 0, .int .i64 0, .int .i64 0, .int .i64 0, .int .i64 0, .int .i64 0, .int .i64 0, .int .i64 0, .int .i64 0, .int .i64 0, .int .i64 0, .int .i64 0, .int .i64 0, .int .i64 0, .int .i64 0, .int .i64 0] 65)) 65 ((ndRead s.data.toList).upto 0).cells
  rw [World.size_alloc] at gx
  have gw2 := gw.alloc gw.size (.cells ((ndRead s.data.toList).upto 0).cells 65)
  clear g1 gw
  go_enter Try.func49, Try.ntmps49
  go_wp2_with fail
  refine (N0.out _).mono ?_
  rintro e w' ⟨rfl, rfl⟩
  go_wp2_with fail
  refine (N1.out _).mono ?_
  rintro e w' ⟨rfl, rfl⟩
  go_wp2_with fail
  refine (N2.out _).mono ?_
  rintro e w' ⟨rfl, rfl⟩
  go_wp2_with fail
  refine (N3.out _).mono ?_
  rintro e w' ⟨rfl, rfl⟩
  go_wp2_with fail
  refine (N4.out _).mono ?_
  rintro e w' ⟨rfl, rfl⟩
  go_wp2_with fail
  clear hst N0 N1 N2 N3 N4
  generalize (w.alloc (.cells #[.int .i64 0, .int .i64 0, .int .i64 0, .int .i64 0, .int .i64 0, .int .i64 0, .int .i64 0, .int .i64 0, .int .i64 0, .int .i64 0, .int .i64 0, .int .i64 0, .int .i64 0, .int .i64 0, .int .i64 0, .int .i64 0, .int .i64 0, .int .i64 0, .int .i64 0] 65)).alloc (.cells ((ndRead s.data.toList).upto 0).cells 65) = v0 at *
  have q1 : w.heap.size < w.heap.size + 1 := by omega
  generalize w.heap.size + 1 = b1 at *
  have HL := Lib.hid h1
  have HR := Lib.hid (ndRead_p s.data.toList)
  have hgood : Hid (ndGood s.data.toList = ((ndRead s.data.toList).chk && decide ((ndRead s.data.toList).block = s.data.toList))) := rfl
  have HGX : Hid (ndGot s.data.toList = if ndGood s.data.toList then .tuple #[.agg (ndRead s.data.toList).cells, .bool true] else .tuple #[.agg ndZero.cells, .bool false]) := rfl
  generalize ndRead s.data.toList = X at *
  go_loopw [5] (fun i wr => ∃ k : Nat, k ≤ 14 ∧ i = .int .i64 k ∧ Blk wr b1 65 (X.upto k).cells ∧ Blk wr w.heap.size 65 ndZero.cells ∧ Below w.heap.size w wr) (fun i _ => 14 - (intOf i).toNat)
  case atStart => exact ⟨0, by omega, rfl, gx, g2, gw2⟩
  case round =>
    obtain ⟨k, hk, rfl, gx, g2, gw⟩ := hrel
    clear gw2
    by_cases hk4 : k < 14
    · have Hn := Lib.hid (N9.out k hk4)
      have c1 := (gx.cell (5 + k)).trans ((X.upto k).cellp k hk4)
      have f1 : wr.frozen? ⟨b1, 5 + k, none⟩ = false := gx.frozen _
      have hx2 := gx.set_ (5 + k) (.int .i64 (X.p.getD k 0))
      rw [Nd.upto_set X k hk4, HR.out k hk4] at hx2
      have HX := Lib.hid hx2
      clear hx2
      have hg2 := g2.far (p := ⟨b1, 5 + k, none⟩) (by show w.heap.size ≠ b1; omega) (.int .i64 (num s.data.toList (17 + 2 * k) 2 : Nat))
      have hgw := gw.setCell (p := ⟨b1, 5 + k, none⟩) (by show w.heap.size ≤ b1; omega) (.int .i64 (num s.data.toList (17 + 2 * k) 2 : Nat))
      clear gx g2 gw
      generalize (X.upto k).p.getD k 0 = u at *
      go_wp2_with fail
      refine (Hn.out _).mono ?_
      rintro e w' ⟨rfl, rfl⟩
      go_wp2_with fail
      go_roundw
      case rel => exact ⟨k + 1, by omega, by go_num, HX.out, hg2, hgw⟩
      case measure => simp [intOf]; omega
    · obtain rfl : k = 14 := by omega
      rw [Nd.upto_14] at gx
      have hld := run_ldN gx
      have HB := Lib.hid gx
      clear N9 HR gx
      go_wp2_with fail
      refine (nrefputV X _).mono ?_
      rintro e w3 ⟨rfl, hb3⟩
      have gx := HB.out.beyond hb3
      have g2 := g2.beyond hb3
      have gw := gw.trans (hb3.mono gw.size)
      clear hb3 hld HB
      have hld := run_ldN gx
      have hst := run_stN (x := X) g2 rfl
      have hst0 : (stV 65 (.pointer (some ⟨w.heap.size, 0, none⟩)) (.agg #[.int .i64 0, .int .i64 0, .int .i64 0, .int .i64 0, .int .i64 0, .int .i64 0, .int .i64 0, .int .i64 0, .int .i64 0, .int .i64 0, .int .i64 0, .int .i64 0, .int .i64 0, .int .i64 0, .int .i64 0, .int .i64 0, .int .i64 0, .int .i64 0, .int .i64 0])).run Try.prog w3 = .ok () (w3.setRow w.heap.size ndZero.cells) := run_stN (x := ndZero) g2 rfl
      have hgot : Hid (ndGot s.data.toList = if X.chk && decide (X.block = s.data.toList) then .tuple #[.agg X.cells, .bool true] else .tuple #[.agg ndZero.cells, .bool false]) := by
        show _ = _
        rw [← hgood.out]
        exact HGX.out
      have hout : Hid (X.out = if X.chk then X.block else []) := rfl
      clear hgood HGX
      generalize X.out = OUT at *
      generalize X.block = BLK at *
      generalize X.chk = ok at *
      cases ok with
      | false =>
        have hno : Hid (ndGot s.data.toList = .tuple #[.agg ndZero.cells, .bool false]) := by show _ = _; rw [hgot.out]; simp
        clear hout hgot
        go_wp2_with fail
        exact bodyPost_ret (results49 (g2.row ndZero.cells) rfl rfl) rfl ⟨by rw [hno.out]; rfl, below_row gw (Nat.le_refl _) _⟩
      | true =>
        have hOB : OUT = BLK := hout.out
        subst hOB
        by_cases hs : OUT = s.data.toList
        · have hyes : Hid (ndGot s.data.toList = .tuple #[.agg X.cells, .bool true]) := by show _ = _; rw [hgot.out]; simp [hs]
          have hne : (OUT == s.toList) = true := by rw [ByteArray.toList_eq]; simpa using hs
          clear hs hout hgot
          go_wp2_with fail
          exact bodyPost_ret (results49 (g2.row X.cells) rfl rfl) rfl ⟨by rw [hyes.out]; rfl, below_row gw (Nat.le_refl _) _⟩
        · have hno : Hid (ndGot s.data.toList = .tuple #[.agg ndZero.cells, .bool false]) := by show _ = _; rw [hgot.out]; simp [hs]
          have hne : (OUT == s.toList) = false := by rw [ByteArray.toList_eq]; simpa using hs
          clear hs hout hgot
          go_wp2_with fail
          exact bodyPost_ret (results49 (g2.row ndZero.cells) rfl rfl) rfl ⟨by rw [hno.out]; rfl, below_row gw (Nat.le_refl _) _⟩
theorem nrefget_short (s : ByteArray) (w : World) (h : s.size ≠ 256) (hs : s.size ≤ 4611686018427387904) :
    Calls Try.prog 49 #[.string s] w fun e w' => e = .returned (ndGot s.data.toList) ∧ Below w.heap.size w w' := by
  have hl : ((s.size : Int) != 256) = true := by simp; omega
  have hno : Hid (ndGot s.data.toList = .tuple #[.agg ndZero.cells, .bool false]) := ndGot_bad fun hc => h hc.length
  have g1 : Blk (w.alloc (.cells #[.int .i64 0, .int .i64 0, .int .i64 0, .int .i64 0, .int .i64 0, .int .i64 0, .int .i64 0, .int .i64 0, .int .i64 0, .int .i64 0, .int .i64 0, .int .i64 0, .int .i64 0, .int .i64 0, .int .i64 0, .int .i64 0, .int .i64 0, .int .i64 0, .int .i64 0] 65)) w.heap.size 65 ndZero.cells := Blk.new w 65 _
  have gw : Below w.heap.size w (w.alloc (.cells #[.int .i64 0, .int .i64 0, .int .i64 0, .int .i64 0, .int .i64 0, .int .i64 0, .int .i64 0, .int .i64 0, .int .i64 0, .int .i64 0, .int .i64 0, .int .i64 0, .int .i64 0, .int .i64 0, .int .i64 0, .int .i64 0, .int .i64 0, .int .i64 0, .int .i64 0] 65)) := (Below.refl _ w).alloc (Nat.le_refl _) _
  have hst0 : (stV 65 (.pointer (some ⟨w.heap.size, 0, none⟩)) (.agg #[.int .i64 0, .int .i64 0, .int .i64 0, .int .i64 0, .int .i64 0, .int .i64 0, .int .i64 0, .int .i64 0, .int .i64 0, .int .i64 0, .int .i64 0, .int .i64 0, .int .i64 0, .int .i64 0, .int .i64 0, .int .i64 0, .int .i64 0, .int .i64 0, .int .i64 0])).run Try.prog (w.alloc (.cells #[.int .i64 0, .int .i64 0, .int .i64 0, .int .i64 0, .int .i64 0, .int .i64 0, .int .i64 0, .int .i64 0, .int .i64 0, .int .i64 0, .int .i64 0, .int .i64 0, .int .i64 0, .int .i64 0, .int .i64 0, .int .i64 0, .int .i64 0, .int .i64 0, .int .i64 0] 65)) = .ok () ((w.alloc (.cells #[.int .i64 0, .int .i64 0, .int .i64 0, .int .i64 0, .int .i64 0, .int .i64 0, .int .i64 0, .int .i64 0, .int .i64 0, .int .i64 0, .int .i64 0, .int .i64 0, .int .i64 0, .int .i64 0, .int .i64 0, .int .i64 0, .int .i64 0, .int .i64 0, .int .i64 0] 65)).setRow w.heap.size ndZero.cells) := run_stN (x := ndZero) g1 rfl
  have _hs := hs
  clear h
  go_enter Try.func49, Try.ntmps49
  go_wp2_with fail
  exact bodyPost_ret (results49 (g1.row ndZero.cells) rfl rfl) rfl ⟨by rw [hno.out]; rfl, below_row gw (Nat.le_refl _) _⟩
end
theorem nrefget_any (s : ByteArray) (w : World) (hs : s.size ≤ 4611686018427387904) :
    Calls Try.prog 49 #[.string s] w fun e w' => e = .returned (ndGot s.data.toList) ∧ Below w.heap.size w w' := by
  by_cases h : s.size = 256
  · exact nrefget_full s w (by omega) (by omega)
  · exact nrefget_short s w h hs
end Go.Proofs.Ytmpkcehjmjopdaa
