import Derived.Shelf.Strings.Repeat
import Derived.Test.YtmpkcehjmjopdaaBin
namespace Go.Proofs
open Go.Shelf
def Try.lays105_ren : Go.Shelf.Ren := ⟨fun | 105 => 69 | 212 => 78 | 99 => 79 | 165 => 80 | 166 => 81 | 170 => 82 | 169 => 83 | 263 => 84 | 264 => 85 | 206 => 86 | 240 => 87 | 241 => 88 | 276 => 89 | 277 => 90 | n => n, fun | 9 => 9 | 3 => 3 | 4 => 4 | 20 => 20 | 0 => 0 | 46 => 30 | 109 => 100 | 5 => 5 | 72 => 104 | 76 => 107 | 51 => 22 | 146 => 109 | 53 => 29 | 148 => 111 | 70 => 102 | 37 => 27 | 75 => 106 | 127 => 113 | 164 => 114 | 80 => 56 | n => n, fun | n => n⟩
theorem Try.lays105 : Go.Proofs.Lays.n105 Try.prog Try.lays105_ren := {
  mixed := by kernel_rfl
  f99 := Try.func79.trans (congrArg some (by kernel_rfl))
  f105 := Try.func69.trans (congrArg some (by kernel_rfl))
  f165 := Try.func80.trans (congrArg some (by kernel_rfl))
  f166 := Try.func81.trans (congrArg some (by kernel_rfl))
  f169 := Try.func83.trans (congrArg some (by kernel_rfl))
  f170 := Try.func82.trans (congrArg some (by kernel_rfl))
  f206 := Try.func86.trans (congrArg some (by kernel_rfl))
  f212 := Try.func78.trans (congrArg some (by kernel_rfl))
  f240 := Try.func87.trans (congrArg some (by kernel_rfl))
  f241 := Try.func88.trans (congrArg some (by kernel_rfl))
  f263 := Try.func84.trans (congrArg some (by kernel_rfl))
  f264 := Try.func85.trans (congrArg some (by kernel_rfl))
  f276 := Try.func89.trans (congrArg some (by kernel_rfl))
  f277 := Try.func90.trans (congrArg some (by kernel_rfl))
  t0 := Try.underlying0
  a0 := Try.isAgg0
  z0 := Try.sizeOf0
  v0 := Try.zeroValue0
  t3 := Try.underlying3
  a3 := Try.isAgg3
  z3 := Try.sizeOf3
  v3 := Try.zeroValue3
  t4 := Try.underlying4
  a4 := Try.isAgg4
  z4 := Try.sizeOf4
  v4 := Try.zeroValue4
  t5 := Try.underlying5
  a5 := Try.isAgg5
  z5 := Try.sizeOf5
  v5 := Try.zeroValue5
  t9 := Try.underlying9
  a9 := Try.isAgg9
  z9 := Try.sizeOf9
  v9 := Try.zeroValue9
  t20 := Try.underlying20
  a20 := Try.isAgg20
  z20 := Try.sizeOf20
  v20 := Try.zeroValue20
  t37 := Try.underlying27
  a37 := Try.isAgg27
  z37 := Try.sizeOf27
  v37 := Try.zeroValue27
  t46 := Try.underlying30
  a46 := Try.isAgg30
  z46 := Try.sizeOf30
  v46 := Try.zeroValue30
  t51 := Try.underlying22
  a51 := Try.isAgg22
  z51 := Try.sizeOf22
  v51 := Try.zeroValue22
  t53 := Try.underlying29
  a53 := Try.isAgg29
  z53 := Try.sizeOf29
  v53 := Try.zeroValue29
  t70 := Try.underlying102
  a70 := Try.isAgg102
  z70 := Try.sizeOf102
  v70 := Try.zeroValue102
  t72 := Try.underlying104
  a72 := Try.isAgg104
  z72 := Try.sizeOf104
  v72 := Try.zeroValue104
  t75 := Try.underlying106
  a75 := Try.isAgg106
  z75 := Try.sizeOf106
  v75 := Try.zeroValue106
  t76 := Try.underlying107
  a76 := Try.isAgg107
  z76 := Try.sizeOf107
  v76 := Try.zeroValue107
  t109 := Try.underlying100
  a109 := Try.isAgg100
  z109 := Try.sizeOf100
  v109 := Try.zeroValue100
  t127 := Try.underlying113
  a127 := Try.isAgg113
  z127 := Try.sizeOf113
  v127 := Try.zeroValue113
  t146 := Try.underlying109
  a146 := Try.isAgg109
  z146 := Try.sizeOf109
  v146 := Try.zeroValue109
  t148 := Try.underlying111
  a148 := Try.isAgg111
  z148 := Try.sizeOf111
  v148 := Try.zeroValue111
  t164 := Try.underlying114
  a164 := Try.isAgg114
  z164 := Try.sizeOf114
  v164 := Try.zeroValue114 }
theorem Try.Builder_Extra_105 : Builder.Extra Try.prog Try.lays105_ren := {
  sizeBuilder := by kernel_rfl
  liesBuilder := by kernel_rfl
  t5 := Try.underlying5
  a5 := Try.isAgg5
  z5 := Try.sizeOf5
  v5 := Try.zeroValue5
  infoByte := by kernel_rfl
  cellsByte := by kernel_rfl
  sizeByte := by kernel_rfl
  neB5 := by decide }
namespace Ytmpkcehjmjopdaa
open Go.RowKit
theorem rep_f : Try.lays105_ren.f 105 = 69 := by kernel_rfl

theorem repeat_any (n : Nat) (w : World) (hn : n ≤ 1000) :
    Calls Try.prog 69 #[.string ⟨#[0]⟩, .int .i64 n] w fun e w' => e = .returned (.string ⟨(List.replicate n 0).toArray⟩) ∧ Below w.heap.size w w' := by
  have h := Any.strings_Repeat Try.lays105 Try.Builder_Extra_105 ⟨#[0]⟩ n w (by omega) (by show 1 * n ≤ _; omega)
  rw [rep_f] at h
  refine h.mono fun e w' ⟨he, hw⟩ => ⟨?_, hw⟩
  rw [he]
  have e : Lib.repeatL (ByteArray.mk #[0]).data.toList n = List.replicate n (0 : UInt8) := by
    have := Lib.repeatL_replicate 0 1 n
    simpa using this
  rw [e]
end Ytmpkcehjmjopdaa
end Go.Proofs
