/-
  No cell of these rows narrows 'for every input' (looked for: loops, veiled, ifaces, maps, wideKeys, modest, calm, conditions, laid).
  DERIVED. THE GIVEN ROWS OF THIS SEAT. 16 by the template 'for every input the law returns true; each argument reads behind the call as it read before'; 0 by the template 'total and deterministic' (their statements: YtmpkcehjmjopdaaTotals.lean).
  GIVEN WITH THE SEED: the statements are not yours to turn. If you find one false, say at which input.
  Laid BY PROGRAM, IN A SANDBOX (cutbox-rows.mjs): the forced cells as the released guide's own fill.sh prints them over the translation a0c5e79eb536836f… (all of the seat's roots in one cut). By AI agents, Wed Nov 11 2026. No macro, syntax, notation, axiom, sorry.
-/
import Derived.Test.YtmpkcehjmjopdaaChecked
import GoSem.Claim
import GoSem.ClaimJoined
import GoSem.ClaimMapViews
import Derived.JoinedTies
import Derived.KernelRfl
namespace Go.Proofs.Ytmpkcehjmjopdaa
/- THE CELL 'sum', in the pinned program and in every row, IS THE sha256 OF THE DUMP (.gsa) THAT YtmpkcehjmjopdaaProg.lean LOADS. Nothing in Lean hashes anything: it is a label: what it is worth is what the hold of that sum in a sandbox is worth. -/
noncomputable def Try.pinned : Pinned := { name := "ytmpkcehjmjopdaa", sum := "a0c5e79eb536836f3a1f80726d4f406c86716f9defe8a452d262b9707dec8db9", checked := Try.checked }
namespace Rows
def none {H : Type} : Left H := { results := [], args := [] }

/-- 'beguinagelaw02.CrcAll': WHATEVER THE INPUT: true; the input reads as it did. -/
def crcAllSpec : ChangeSpec := { name := "crcAll", fn := fun _ => fun
  | [d1, d2] => { results := [.lit (.bool true)], args := [d1, d2] }
  | _ => none }
def crcAllRow : OpenClaim := { program := "ytmpkcehjmjopdaa", sum := "a0c5e79eb536836f3a1f80726d4f406c86716f9defe8a452d262b9707dec8db9", func := "beguinage/beguinagelaw02.CrcAll", spec := "crcAll", apart := false }
def CrcAllSaid : Prop := crcAllRow.holds Try.pinned (OpenSpec.ofChange crcAllSpec)

/-- ITS FALSE NEIGHBOUR: 'it returns false'. Refute it at one input. -/
def crcAllWrong : ChangeSpec := { name := "crcAll", fn := fun _ => fun
  | [d1, d2] => { results := [.lit (.bool false)], args := [d1, d2] }
  | _ => none }
def CrcAllWrongFalsely : Prop := crcAllRow.holds Try.pinned (OpenSpec.ofChange crcAllWrong)

/-- 'beguinagelaw02.CrcBits': WHATEVER THE INPUT: true; the input reads as it did. -/
def crcBitsSpec : ChangeSpec := { name := "crcBits", fn := fun _ => fun
  | [d1, d2, d3] => { results := [.lit (.bool true)], args := [d1, d2, d3] }
  | _ => none }
def crcBitsRow : OpenClaim := { program := "ytmpkcehjmjopdaa", sum := "a0c5e79eb536836f3a1f80726d4f406c86716f9defe8a452d262b9707dec8db9", func := "beguinage/beguinagelaw02.CrcBits", spec := "crcBits", apart := false }
def CrcBitsSaid : Prop := crcBitsRow.holds Try.pinned (OpenSpec.ofChange crcBitsSpec)

/-- ITS FALSE NEIGHBOUR: 'it returns false'. Refute it at one input. -/
def crcBitsWrong : ChangeSpec := { name := "crcBits", fn := fun _ => fun
  | [d1, d2, d3] => { results := [.lit (.bool false)], args := [d1, d2, d3] }
  | _ => none }
def CrcBitsWrongFalsely : Prop := crcBitsRow.holds Try.pinned (OpenSpec.ofChange crcBitsWrong)

/-- 'beguinagelaw02.CrcParts': WHATEVER THE INPUT: true; the input reads as it did. -/
def crcPartsSpec : ChangeSpec := { name := "crcParts", fn := fun _ => fun
  | [d1, d2] => { results := [.lit (.bool true)], args := [d1, d2] }
  | _ => none }
def crcPartsRow : OpenClaim := { program := "ytmpkcehjmjopdaa", sum := "a0c5e79eb536836f3a1f80726d4f406c86716f9defe8a452d262b9707dec8db9", func := "beguinage/beguinagelaw02.CrcParts", spec := "crcParts", apart := false }
def CrcPartsSaid : Prop := crcPartsRow.holds Try.pinned (OpenSpec.ofChange crcPartsSpec)

/-- ITS FALSE NEIGHBOUR: 'it returns false'. Refute it at one input. -/
def crcPartsWrong : ChangeSpec := { name := "crcParts", fn := fun _ => fun
  | [d1, d2] => { results := [.lit (.bool false)], args := [d1, d2] }
  | _ => none }
def CrcPartsWrongFalsely : Prop := crcPartsRow.holds Try.pinned (OpenSpec.ofChange crcPartsWrong)

/-- 'beguinagelaw02.CrcOrder': WHATEVER THE INPUT: true; the input reads as it did. -/
def crcOrderSpec : ChangeSpec := { name := "crcOrder", fn := fun _ => fun
  | [d1, d2, d3] => { results := [.lit (.bool true)], args := [d1, d2, d3] }
  | _ => none }
def crcOrderRow : OpenClaim := { program := "ytmpkcehjmjopdaa", sum := "a0c5e79eb536836f3a1f80726d4f406c86716f9defe8a452d262b9707dec8db9", func := "beguinage/beguinagelaw02.CrcOrder", spec := "crcOrder", apart := false }
def CrcOrderSaid : Prop := crcOrderRow.holds Try.pinned (OpenSpec.ofChange crcOrderSpec)

/-- ITS FALSE NEIGHBOUR: 'it returns false'. Refute it at one input. -/
def crcOrderWrong : ChangeSpec := { name := "crcOrder", fn := fun _ => fun
  | [d1, d2, d3] => { results := [.lit (.bool false)], args := [d1, d2, d3] }
  | _ => none }
def CrcOrderWrongFalsely : Prop := crcOrderRow.holds Try.pinned (OpenSpec.ofChange crcOrderWrong)

/-- 'beguinagelaw07.SlotAll': WHATEVER THE INPUT: true; the input reads as it did. -/
def slotAllSpec : ChangeSpec := { name := "slotAll", fn := fun _ => fun
  | [d1, d2, d3, d4] => { results := [.lit (.bool true)], args := [d1, d2, d3, d4] }
  | _ => none }
def slotAllRow : OpenClaim := { program := "ytmpkcehjmjopdaa", sum := "a0c5e79eb536836f3a1f80726d4f406c86716f9defe8a452d262b9707dec8db9", func := "beguinage/beguinagelaw07.SlotAll", spec := "slotAll", unfollowed := true, recurses := true, apart := false }
def SlotAllSaid : Prop := slotAllRow.holds Try.pinned (OpenSpec.ofChange slotAllSpec)

/-- ITS FALSE NEIGHBOUR: 'it returns false'. Refute it at one input. -/
def slotAllWrong : ChangeSpec := { name := "slotAll", fn := fun _ => fun
  | [d1, d2, d3, d4] => { results := [.lit (.bool false)], args := [d1, d2, d3, d4] }
  | _ => none }
def SlotAllWrongFalsely : Prop := slotAllRow.holds Try.pinned (OpenSpec.ofChange slotAllWrong)

/-- 'beguinagelaw07.SlotBack': WHATEVER THE INPUT: true; the input reads as it did. -/
def slotBackSpec : ChangeSpec := { name := "slotBack", fn := fun _ => fun
  | [d1, d2, d3, d4] => { results := [.lit (.bool true)], args := [d1, d2, d3, d4] }
  | _ => none }
def slotBackRow : OpenClaim := { program := "ytmpkcehjmjopdaa", sum := "a0c5e79eb536836f3a1f80726d4f406c86716f9defe8a452d262b9707dec8db9", func := "beguinage/beguinagelaw07.SlotBack", spec := "slotBack", unfollowed := true, recurses := true, apart := false }
def SlotBackSaid : Prop := slotBackRow.holds Try.pinned (OpenSpec.ofChange slotBackSpec)

/-- ITS FALSE NEIGHBOUR: 'it returns false'. Refute it at one input. -/
def slotBackWrong : ChangeSpec := { name := "slotBack", fn := fun _ => fun
  | [d1, d2, d3, d4] => { results := [.lit (.bool false)], args := [d1, d2, d3, d4] }
  | _ => none }
def SlotBackWrongFalsely : Prop := slotBackRow.holds Try.pinned (OpenSpec.ofChange slotBackWrong)

/-- 'beguinagelaw07.SlotEdges': WHATEVER THE INPUT: true; the input reads as it did. -/
def slotEdgesSpec : ChangeSpec := { name := "slotEdges", fn := fun _ => fun
  | [d1, d2] => { results := [.lit (.bool true)], args := [d1, d2] }
  | _ => none }
def slotEdgesRow : OpenClaim := { program := "ytmpkcehjmjopdaa", sum := "a0c5e79eb536836f3a1f80726d4f406c86716f9defe8a452d262b9707dec8db9", func := "beguinage/beguinagelaw07.SlotEdges", spec := "slotEdges", unfollowed := true, recurses := true, apart := false }
def SlotEdgesSaid : Prop := slotEdgesRow.holds Try.pinned (OpenSpec.ofChange slotEdgesSpec)

/-- ITS FALSE NEIGHBOUR: 'it returns false'. Refute it at one input. -/
def slotEdgesWrong : ChangeSpec := { name := "slotEdges", fn := fun _ => fun
  | [d1, d2] => { results := [.lit (.bool false)], args := [d1, d2] }
  | _ => none }
def SlotEdgesWrongFalsely : Prop := slotEdgesRow.holds Try.pinned (OpenSpec.ofChange slotEdgesWrong)

/-- 'beguinagelaw07.SlotApart': WHATEVER THE INPUT: true; the input reads as it did. -/
def slotApartSpec : ChangeSpec := { name := "slotApart", fn := fun _ => fun
  | [d1, d2, d3] => { results := [.lit (.bool true)], args := [d1, d2, d3] }
  | _ => none }
def slotApartRow : OpenClaim := { program := "ytmpkcehjmjopdaa", sum := "a0c5e79eb536836f3a1f80726d4f406c86716f9defe8a452d262b9707dec8db9", func := "beguinage/beguinagelaw07.SlotApart", spec := "slotApart", unfollowed := true, recurses := true, apart := false }
def SlotApartSaid : Prop := slotApartRow.holds Try.pinned (OpenSpec.ofChange slotApartSpec)

/-- ITS FALSE NEIGHBOUR: 'it returns false'. Refute it at one input. -/
def slotApartWrong : ChangeSpec := { name := "slotApart", fn := fun _ => fun
  | [d1, d2, d3] => { results := [.lit (.bool false)], args := [d1, d2, d3] }
  | _ => none }
def SlotApartWrongFalsely : Prop := slotApartRow.holds Try.pinned (OpenSpec.ofChange slotApartWrong)

/-- 'beguinagelaw16.ImageTorn': WHATEVER THE INPUT: true; the input reads as it did. -/
def imageTornSpec : ChangeSpec := { name := "imageTorn", fn := fun _ => fun
  | [d1, d2, d3] => { results := [.lit (.bool true)], args := [d1, d2, d3] }
  | _ => none }
def imageTornRow : OpenClaim := { program := "ytmpkcehjmjopdaa", sum := "a0c5e79eb536836f3a1f80726d4f406c86716f9defe8a452d262b9707dec8db9", func := "beguinage/beguinagelaw16.ImageTorn", spec := "imageTorn", unfollowed := true, recurses := true, apart := false }
def ImageTornSaid : Prop := imageTornRow.holds Try.pinned (OpenSpec.ofChange imageTornSpec)

/-- ITS FALSE NEIGHBOUR: 'it returns false'. Refute it at one input. -/
def imageTornWrong : ChangeSpec := { name := "imageTorn", fn := fun _ => fun
  | [d1, d2, d3] => { results := [.lit (.bool false)], args := [d1, d2, d3] }
  | _ => none }
def ImageTornWrongFalsely : Prop := imageTornRow.holds Try.pinned (OpenSpec.ofChange imageTornWrong)

/-- 'beguinagelaw16.ImageOthers': WHATEVER THE INPUT: true; the input reads as it did. -/
def imageOthersSpec : ChangeSpec := { name := "imageOthers", fn := fun _ => fun
  | [d1, d2, d3] => { results := [.lit (.bool true)], args := [d1, d2, d3] }
  | _ => none }
def imageOthersRow : OpenClaim := { program := "ytmpkcehjmjopdaa", sum := "a0c5e79eb536836f3a1f80726d4f406c86716f9defe8a452d262b9707dec8db9", func := "beguinage/beguinagelaw16.ImageOthers", spec := "imageOthers", unfollowed := true, recurses := true, apart := false }
def ImageOthersSaid : Prop := imageOthersRow.holds Try.pinned (OpenSpec.ofChange imageOthersSpec)

/-- ITS FALSE NEIGHBOUR: 'it returns false'. Refute it at one input. -/
def imageOthersWrong : ChangeSpec := { name := "imageOthers", fn := fun _ => fun
  | [d1, d2, d3] => { results := [.lit (.bool false)], args := [d1, d2, d3] }
  | _ => none }
def ImageOthersWrongFalsely : Prop := imageOthersRow.holds Try.pinned (OpenSpec.ofChange imageOthersWrong)

/-- 'beguinagelaw16.ImageCuts': WHATEVER THE INPUT: true; the input reads as it did. -/
def imageCutsSpec : ChangeSpec := { name := "imageCuts", fn := fun _ => fun
  | [d1, d2, d3] => { results := [.lit (.bool true)], args := [d1, d2, d3] }
  | _ => none }
def imageCutsRow : OpenClaim := { program := "ytmpkcehjmjopdaa", sum := "a0c5e79eb536836f3a1f80726d4f406c86716f9defe8a452d262b9707dec8db9", func := "beguinage/beguinagelaw16.ImageCuts", spec := "imageCuts", unfollowed := true, recurses := true, apart := false }
def ImageCutsSaid : Prop := imageCutsRow.holds Try.pinned (OpenSpec.ofChange imageCutsSpec)

/-- ITS FALSE NEIGHBOUR: 'it returns false'. Refute it at one input. -/
def imageCutsWrong : ChangeSpec := { name := "imageCuts", fn := fun _ => fun
  | [d1, d2, d3] => { results := [.lit (.bool false)], args := [d1, d2, d3] }
  | _ => none }
def ImageCutsWrongFalsely : Prop := imageCutsRow.holds Try.pinned (OpenSpec.ofChange imageCutsWrong)

/-- 'beguinagelaw09.NodeAll': WHATEVER THE INPUT: true; the input reads as it did. -/
def nodeAllSpec : ChangeSpec := { name := "nodeAll", fn := fun _ => fun
  | [d1, d2] => { results := [.lit (.bool true)], args := [d1, d2] }
  | _ => none }
def nodeAllRow : OpenClaim := { program := "ytmpkcehjmjopdaa", sum := "a0c5e79eb536836f3a1f80726d4f406c86716f9defe8a452d262b9707dec8db9", func := "beguinage/beguinagelaw09.NodeAll", spec := "nodeAll", inPlace := ["internal/abi.NoEscape", "internal/bytealg.MakeNoZero"], unfollowed := true, recurses := true, apart := false }
def NodeAllSaid : Prop := nodeAllRow.holds Try.pinned (OpenSpec.ofChange nodeAllSpec)

/-- ITS FALSE NEIGHBOUR: 'it returns false'. Refute it at one input. -/
def nodeAllWrong : ChangeSpec := { name := "nodeAll", fn := fun _ => fun
  | [d1, d2] => { results := [.lit (.bool false)], args := [d1, d2] }
  | _ => none }
def NodeAllWrongFalsely : Prop := nodeAllRow.holds Try.pinned (OpenSpec.ofChange nodeAllWrong)

/-- 'beguinagelaw09.NodeBack': WHATEVER THE INPUT: true; the input reads as it did. -/
def nodeBackSpec : ChangeSpec := { name := "nodeBack", fn := fun _ => fun
  | [d1, d2] => { results := [.lit (.bool true)], args := [d1, d2] }
  | _ => none }
def nodeBackRow : OpenClaim := { program := "ytmpkcehjmjopdaa", sum := "a0c5e79eb536836f3a1f80726d4f406c86716f9defe8a452d262b9707dec8db9", func := "beguinage/beguinagelaw09.NodeBack", spec := "nodeBack", inPlace := ["internal/abi.NoEscape", "internal/bytealg.MakeNoZero"], unfollowed := true, recurses := true, apart := false }
def NodeBackSaid : Prop := nodeBackRow.holds Try.pinned (OpenSpec.ofChange nodeBackSpec)

/-- ITS FALSE NEIGHBOUR: 'it returns false'. Refute it at one input. -/
def nodeBackWrong : ChangeSpec := { name := "nodeBack", fn := fun _ => fun
  | [d1, d2] => { results := [.lit (.bool false)], args := [d1, d2] }
  | _ => none }
def NodeBackWrongFalsely : Prop := nodeBackRow.holds Try.pinned (OpenSpec.ofChange nodeBackWrong)

/-- 'beguinagelaw09.NodeEdges': WHATEVER THE INPUT: true; the input reads as it did. -/
def nodeEdgesSpec : ChangeSpec := { name := "nodeEdges", fn := fun _ => fun
  | [d1, d2] => { results := [.lit (.bool true)], args := [d1, d2] }
  | _ => none }
def nodeEdgesRow : OpenClaim := { program := "ytmpkcehjmjopdaa", sum := "a0c5e79eb536836f3a1f80726d4f406c86716f9defe8a452d262b9707dec8db9", func := "beguinage/beguinagelaw09.NodeEdges", spec := "nodeEdges", inPlace := ["internal/abi.NoEscape", "internal/bytealg.MakeNoZero"], unfollowed := true, recurses := true, apart := false }
def NodeEdgesSaid : Prop := nodeEdgesRow.holds Try.pinned (OpenSpec.ofChange nodeEdgesSpec)

/-- ITS FALSE NEIGHBOUR: 'it returns false'. Refute it at one input. -/
def nodeEdgesWrong : ChangeSpec := { name := "nodeEdges", fn := fun _ => fun
  | [d1, d2] => { results := [.lit (.bool false)], args := [d1, d2] }
  | _ => none }
def NodeEdgesWrongFalsely : Prop := nodeEdgesRow.holds Try.pinned (OpenSpec.ofChange nodeEdgesWrong)

/-- 'beguinagelaw09.NodeApart': WHATEVER THE INPUT: true; the input reads as it did. -/
def nodeApartSpec : ChangeSpec := { name := "nodeApart", fn := fun _ => fun
  | [d1, d2, d3] => { results := [.lit (.bool true)], args := [d1, d2, d3] }
  | _ => none }
def nodeApartRow : OpenClaim := { program := "ytmpkcehjmjopdaa", sum := "a0c5e79eb536836f3a1f80726d4f406c86716f9defe8a452d262b9707dec8db9", func := "beguinage/beguinagelaw09.NodeApart", spec := "nodeApart", inPlace := ["internal/abi.NoEscape", "internal/bytealg.MakeNoZero"], unfollowed := true, recurses := true, apart := false }
def NodeApartSaid : Prop := nodeApartRow.holds Try.pinned (OpenSpec.ofChange nodeApartSpec)

/-- ITS FALSE NEIGHBOUR: 'it returns false'. Refute it at one input. -/
def nodeApartWrong : ChangeSpec := { name := "nodeApart", fn := fun _ => fun
  | [d1, d2, d3] => { results := [.lit (.bool false)], args := [d1, d2, d3] }
  | _ => none }
def NodeApartWrongFalsely : Prop := nodeApartRow.holds Try.pinned (OpenSpec.ofChange nodeApartWrong)

/-- 'beguinagelaw16.ImageNewest': WHATEVER THE INPUT: true; the input reads as it did. -/
def imageNewestSpec : ChangeSpec := { name := "imageNewest", fn := fun _ => fun
  | [d1, d2, d3] => { results := [.lit (.bool true)], args := [d1, d2, d3] }
  | _ => none }
def imageNewestRow : OpenClaim := { program := "ytmpkcehjmjopdaa", sum := "a0c5e79eb536836f3a1f80726d4f406c86716f9defe8a452d262b9707dec8db9", func := "beguinage/beguinagelaw16.ImageNewest", spec := "imageNewest", inPlace := ["internal/abi.NoEscape", "internal/bytealg.MakeNoZero"], unfollowed := true, recurses := true, apart := false }
def ImageNewestSaid : Prop := imageNewestRow.holds Try.pinned (OpenSpec.ofChange imageNewestSpec)

/-- ITS FALSE NEIGHBOUR: 'it returns false'. Refute it at one input. -/
def imageNewestWrong : ChangeSpec := { name := "imageNewest", fn := fun _ => fun
  | [d1, d2, d3] => { results := [.lit (.bool false)], args := [d1, d2, d3] }
  | _ => none }
def ImageNewestWrongFalsely : Prop := imageNewestRow.holds Try.pinned (OpenSpec.ofChange imageNewestWrong)

/- THE SECOND FORM. 'bulk': how many values and letters a reading holds, each counted each time it is reached (what is shared counts as often as it is met; a slice's spare places count too). A statement '..UptoSaid' is the law's where the arguments, and the package variables that the reading takes, are together of bulk at most 1048576: NARROWER than '..Said'. Prove '..Said' where nothing that the law and all that it calls make is longer than what came in: it says more and counts as full. Else prove '..UptoSaid'. A law counts once. -/
mutual
def uptoBulk {H : Type} : DataW H → Nat
  | .lit (.string bytes) => bytes.length + 1
  | .lit _ => 1
  | .nil => 1
  | .ptr d => uptoBulk d + 1
  | .slice elems spare => uptoBulkAll elems + uptoBulkAll spare + 1
  | .agg parts => uptoBulkAll parts + 1
  | .iface _ d => uptoBulk d + 1
  | .map entries => uptoBulkEntries entries + 1
  | .held _ => 1
def uptoBulkAll {H : Type} : List (DataW H) → Nat
  | [] => 0
  | d :: r => uptoBulk d + uptoBulkAll r
def uptoBulkEntries {H : Type} : List (Lit × DataW H) → Nat
  | [] => 0
  | x :: r => uptoBulkEntry x + uptoBulkEntries r
def uptoBulkEntry {H : Type} : Lit × DataW H → Nat
  | (.string bytes, d) => bytes.length + uptoBulk d + 1
  | (_, d) => uptoBulk d + 1
 end
def uptoSmall : (H : Type) → List (DataW H) → Bool := fun _ ds => decide (uptoBulkAll ds ≤ 1048576)
def OpenSpec.upto (s : _root_.Go.ChangeSpec) : _root_.Go.OpenSpec := { _root_.Go.OpenSpec.ofChange s with cond := some uptoSmall }

/-- 'beguinagelaw02.CrcAll', WHERE WHAT IT READS IS OF BULK AT MOST 1048576: true; the input reads as it did. -/
def crcAllUptoRow : OpenClaim := { program := "ytmpkcehjmjopdaa", sum := "a0c5e79eb536836f3a1f80726d4f406c86716f9defe8a452d262b9707dec8db9", func := "beguinage/beguinagelaw02.CrcAll", spec := "crcAll", apart := false, narrowed := true }
def CrcAllUptoSaid : Prop := crcAllUptoRow.holds Try.pinned (OpenSpec.upto crcAllSpec)

/-- 'beguinagelaw02.CrcBits', WHERE WHAT IT READS IS OF BULK AT MOST 1048576: true; the input reads as it did. -/
def crcBitsUptoRow : OpenClaim := { program := "ytmpkcehjmjopdaa", sum := "a0c5e79eb536836f3a1f80726d4f406c86716f9defe8a452d262b9707dec8db9", func := "beguinage/beguinagelaw02.CrcBits", spec := "crcBits", apart := false, narrowed := true }
def CrcBitsUptoSaid : Prop := crcBitsUptoRow.holds Try.pinned (OpenSpec.upto crcBitsSpec)

/-- 'beguinagelaw02.CrcParts', WHERE WHAT IT READS IS OF BULK AT MOST 1048576: true; the input reads as it did. -/
def crcPartsUptoRow : OpenClaim := { program := "ytmpkcehjmjopdaa", sum := "a0c5e79eb536836f3a1f80726d4f406c86716f9defe8a452d262b9707dec8db9", func := "beguinage/beguinagelaw02.CrcParts", spec := "crcParts", apart := false, narrowed := true }
def CrcPartsUptoSaid : Prop := crcPartsUptoRow.holds Try.pinned (OpenSpec.upto crcPartsSpec)

/-- 'beguinagelaw02.CrcOrder', WHERE WHAT IT READS IS OF BULK AT MOST 1048576: true; the input reads as it did. -/
def crcOrderUptoRow : OpenClaim := { program := "ytmpkcehjmjopdaa", sum := "a0c5e79eb536836f3a1f80726d4f406c86716f9defe8a452d262b9707dec8db9", func := "beguinage/beguinagelaw02.CrcOrder", spec := "crcOrder", apart := false, narrowed := true }
def CrcOrderUptoSaid : Prop := crcOrderUptoRow.holds Try.pinned (OpenSpec.upto crcOrderSpec)

/-- 'beguinagelaw07.SlotAll', WHERE WHAT IT READS IS OF BULK AT MOST 1048576: true; the input reads as it did. -/
def slotAllUptoRow : OpenClaim := { program := "ytmpkcehjmjopdaa", sum := "a0c5e79eb536836f3a1f80726d4f406c86716f9defe8a452d262b9707dec8db9", func := "beguinage/beguinagelaw07.SlotAll", spec := "slotAll", unfollowed := true, recurses := true, apart := false, narrowed := true }
def SlotAllUptoSaid : Prop := slotAllUptoRow.holds Try.pinned (OpenSpec.upto slotAllSpec)

/-- 'beguinagelaw07.SlotBack', WHERE WHAT IT READS IS OF BULK AT MOST 1048576: true; the input reads as it did. -/
def slotBackUptoRow : OpenClaim := { program := "ytmpkcehjmjopdaa", sum := "a0c5e79eb536836f3a1f80726d4f406c86716f9defe8a452d262b9707dec8db9", func := "beguinage/beguinagelaw07.SlotBack", spec := "slotBack", unfollowed := true, recurses := true, apart := false, narrowed := true }
def SlotBackUptoSaid : Prop := slotBackUptoRow.holds Try.pinned (OpenSpec.upto slotBackSpec)

/-- 'beguinagelaw07.SlotEdges', WHERE WHAT IT READS IS OF BULK AT MOST 1048576: true; the input reads as it did. -/
def slotEdgesUptoRow : OpenClaim := { program := "ytmpkcehjmjopdaa", sum := "a0c5e79eb536836f3a1f80726d4f406c86716f9defe8a452d262b9707dec8db9", func := "beguinage/beguinagelaw07.SlotEdges", spec := "slotEdges", unfollowed := true, recurses := true, apart := false, narrowed := true }
def SlotEdgesUptoSaid : Prop := slotEdgesUptoRow.holds Try.pinned (OpenSpec.upto slotEdgesSpec)

/-- 'beguinagelaw07.SlotApart', WHERE WHAT IT READS IS OF BULK AT MOST 1048576: true; the input reads as it did. -/
def slotApartUptoRow : OpenClaim := { program := "ytmpkcehjmjopdaa", sum := "a0c5e79eb536836f3a1f80726d4f406c86716f9defe8a452d262b9707dec8db9", func := "beguinage/beguinagelaw07.SlotApart", spec := "slotApart", unfollowed := true, recurses := true, apart := false, narrowed := true }
def SlotApartUptoSaid : Prop := slotApartUptoRow.holds Try.pinned (OpenSpec.upto slotApartSpec)

/-- 'beguinagelaw16.ImageTorn', WHERE WHAT IT READS IS OF BULK AT MOST 1048576: true; the input reads as it did. -/
def imageTornUptoRow : OpenClaim := { program := "ytmpkcehjmjopdaa", sum := "a0c5e79eb536836f3a1f80726d4f406c86716f9defe8a452d262b9707dec8db9", func := "beguinage/beguinagelaw16.ImageTorn", spec := "imageTorn", unfollowed := true, recurses := true, apart := false, narrowed := true }
def ImageTornUptoSaid : Prop := imageTornUptoRow.holds Try.pinned (OpenSpec.upto imageTornSpec)

/-- 'beguinagelaw16.ImageOthers', WHERE WHAT IT READS IS OF BULK AT MOST 1048576: true; the input reads as it did. -/
def imageOthersUptoRow : OpenClaim := { program := "ytmpkcehjmjopdaa", sum := "a0c5e79eb536836f3a1f80726d4f406c86716f9defe8a452d262b9707dec8db9", func := "beguinage/beguinagelaw16.ImageOthers", spec := "imageOthers", unfollowed := true, recurses := true, apart := false, narrowed := true }
def ImageOthersUptoSaid : Prop := imageOthersUptoRow.holds Try.pinned (OpenSpec.upto imageOthersSpec)

/-- 'beguinagelaw16.ImageCuts', WHERE WHAT IT READS IS OF BULK AT MOST 1048576: true; the input reads as it did. -/
def imageCutsUptoRow : OpenClaim := { program := "ytmpkcehjmjopdaa", sum := "a0c5e79eb536836f3a1f80726d4f406c86716f9defe8a452d262b9707dec8db9", func := "beguinage/beguinagelaw16.ImageCuts", spec := "imageCuts", unfollowed := true, recurses := true, apart := false, narrowed := true }
def ImageCutsUptoSaid : Prop := imageCutsUptoRow.holds Try.pinned (OpenSpec.upto imageCutsSpec)

/-- 'beguinagelaw09.NodeAll', WHERE WHAT IT READS IS OF BULK AT MOST 1048576: true; the input reads as it did. -/
def nodeAllUptoRow : OpenClaim := { program := "ytmpkcehjmjopdaa", sum := "a0c5e79eb536836f3a1f80726d4f406c86716f9defe8a452d262b9707dec8db9", func := "beguinage/beguinagelaw09.NodeAll", spec := "nodeAll", inPlace := ["internal/abi.NoEscape", "internal/bytealg.MakeNoZero"], unfollowed := true, recurses := true, apart := false, narrowed := true }
def NodeAllUptoSaid : Prop := nodeAllUptoRow.holds Try.pinned (OpenSpec.upto nodeAllSpec)

/-- 'beguinagelaw09.NodeBack', WHERE WHAT IT READS IS OF BULK AT MOST 1048576: true; the input reads as it did. -/
def nodeBackUptoRow : OpenClaim := { program := "ytmpkcehjmjopdaa", sum := "a0c5e79eb536836f3a1f80726d4f406c86716f9defe8a452d262b9707dec8db9", func := "beguinage/beguinagelaw09.NodeBack", spec := "nodeBack", inPlace := ["internal/abi.NoEscape", "internal/bytealg.MakeNoZero"], unfollowed := true, recurses := true, apart := false, narrowed := true }
def NodeBackUptoSaid : Prop := nodeBackUptoRow.holds Try.pinned (OpenSpec.upto nodeBackSpec)

/-- 'beguinagelaw09.NodeEdges', WHERE WHAT IT READS IS OF BULK AT MOST 1048576: true; the input reads as it did. -/
def nodeEdgesUptoRow : OpenClaim := { program := "ytmpkcehjmjopdaa", sum := "a0c5e79eb536836f3a1f80726d4f406c86716f9defe8a452d262b9707dec8db9", func := "beguinage/beguinagelaw09.NodeEdges", spec := "nodeEdges", inPlace := ["internal/abi.NoEscape", "internal/bytealg.MakeNoZero"], unfollowed := true, recurses := true, apart := false, narrowed := true }
def NodeEdgesUptoSaid : Prop := nodeEdgesUptoRow.holds Try.pinned (OpenSpec.upto nodeEdgesSpec)

/-- 'beguinagelaw09.NodeApart', WHERE WHAT IT READS IS OF BULK AT MOST 1048576: true; the input reads as it did. -/
def nodeApartUptoRow : OpenClaim := { program := "ytmpkcehjmjopdaa", sum := "a0c5e79eb536836f3a1f80726d4f406c86716f9defe8a452d262b9707dec8db9", func := "beguinage/beguinagelaw09.NodeApart", spec := "nodeApart", inPlace := ["internal/abi.NoEscape", "internal/bytealg.MakeNoZero"], unfollowed := true, recurses := true, apart := false, narrowed := true }
def NodeApartUptoSaid : Prop := nodeApartUptoRow.holds Try.pinned (OpenSpec.upto nodeApartSpec)

/-- 'beguinagelaw16.ImageNewest', WHERE WHAT IT READS IS OF BULK AT MOST 1048576: true; the input reads as it did. -/
def imageNewestUptoRow : OpenClaim := { program := "ytmpkcehjmjopdaa", sum := "a0c5e79eb536836f3a1f80726d4f406c86716f9defe8a452d262b9707dec8db9", func := "beguinage/beguinagelaw16.ImageNewest", spec := "imageNewest", inPlace := ["internal/abi.NoEscape", "internal/bytealg.MakeNoZero"], unfollowed := true, recurses := true, apart := false, narrowed := true }
def ImageNewestUptoSaid : Prop := imageNewestUptoRow.holds Try.pinned (OpenSpec.upto imageNewestSpec)

end Rows
end Go.Proofs.Ytmpkcehjmjopdaa
