/-
  No cell of these rows narrows 'for every input' (looked for: loops, veiled, ifaces, maps, wideKeys, modest, calm, conditions, laid).
  DERIVED. THE GIVEN ROWS OF THIS SEAT. 12 by the template 'for every input the law returns true; each argument reads behind the call as it read before'; 0 by the template 'total and deterministic' (their statements: YtfpghdcjdnifcaaGreatTotals.lean).
  GIVEN WITH THE SEED: the statements are not yours to turn. If you find one false, say at which input.
  Laid BY PROGRAM, IN A SANDBOX (cutbox-rows.mjs): the forced cells as the released guide's own fill.sh prints them over the translation c7d75b6e0867d0a8… (all of the seat's roots in one cut). By AI agents, Wed Nov 11 2026. No macro, syntax, notation, axiom, sorry.
-/
import Derived.Test.YtfpghdcjdnifcaaGreatChecked
import GoSem.Claim
import GoSem.ClaimJoined
import GoSem.ClaimMapViews
import Derived.JoinedTies
import Derived.KernelRfl
namespace Go.Proofs.YtfpghdcjdnifcaaGreat
/- THE CELL 'sum', in the pinned program and in every row, IS THE sha256 OF THE DUMP (.gsa) THAT YtfpghdcjdnifcaaGreatProg.lean LOADS. Nothing in Lean hashes anything: it is a label: what it is worth is what the hold of that sum in a sandbox is worth. -/
noncomputable def Tryz.pinned : Pinned := { name := "ytfpghdcjdnifcaagreat", sum := "c7d75b6e0867d0a83186d5145786ad4cea13d9ca56852c9a7236a47576c8891a", checked := Tryz.checked }
namespace Rows
def none {H : Type} : Left H := { results := [], args := [] }

/-- 'allotmentlaw23.GateNews': WHATEVER THE INPUT: true; the input reads as it did. -/
def gateNewsSpec : ChangeSpec := { name := "gateNews", fn := fun _ => fun
  | [d] => { results := [.lit (.bool true)], args := [d] }
  | _ => none }
def gateNewsRow : OpenClaim := { program := "ytfpghdcjdnifcaagreat", sum := "c7d75b6e0867d0a83186d5145786ad4cea13d9ca56852c9a7236a47576c8891a", func := "allotment/allotmentlaw23.GateNews", spec := "gateNews", inPlace := ["math/bits.Add64"], unfollowed := true, recurses := true, apart := false }
def GateNewsSaid : Prop := gateNewsRow.holds Tryz.pinned (OpenSpec.ofChange gateNewsSpec)

/-- ITS FALSE NEIGHBOUR: 'it returns false'. Refute it at one input. -/
def gateNewsWrong : ChangeSpec := { name := "gateNews", fn := fun _ => fun
  | [d] => { results := [.lit (.bool false)], args := [d] }
  | _ => none }
def GateNewsWrongFalsely : Prop := gateNewsRow.holds Tryz.pinned (OpenSpec.ofChange gateNewsWrong)

/-- 'allotmentlaw23.GateRights': WHATEVER THE INPUT: true; the input reads as it did. -/
def gateRightsSpec : ChangeSpec := { name := "gateRights", fn := fun _ => fun
  | [d1, d2] => { results := [.lit (.bool true)], args := [d1, d2] }
  | _ => none }
def gateRightsRow : OpenClaim := { program := "ytfpghdcjdnifcaagreat", sum := "c7d75b6e0867d0a83186d5145786ad4cea13d9ca56852c9a7236a47576c8891a", func := "allotment/allotmentlaw23.GateRights", spec := "gateRights", inPlace := ["math/bits.Add64"], unfollowed := true, recurses := true, apart := false }
def GateRightsSaid : Prop := gateRightsRow.holds Tryz.pinned (OpenSpec.ofChange gateRightsSpec)

/-- ITS FALSE NEIGHBOUR: 'it returns false'. Refute it at one input. -/
def gateRightsWrong : ChangeSpec := { name := "gateRights", fn := fun _ => fun
  | [d1, d2] => { results := [.lit (.bool false)], args := [d1, d2] }
  | _ => none }
def GateRightsWrongFalsely : Prop := gateRightsRow.holds Tryz.pinned (OpenSpec.ofChange gateRightsWrong)

/-- 'allotmentlaw23.GateForms': WHATEVER THE INPUT: true; the input reads as it did. -/
def gateFormsSpec : ChangeSpec := { name := "gateForms", fn := fun _ => fun
  | [d1, d2, d3, d4] => { results := [.lit (.bool true)], args := [d1, d2, d3, d4] }
  | _ => none }
def gateFormsRow : OpenClaim := { program := "ytfpghdcjdnifcaagreat", sum := "c7d75b6e0867d0a83186d5145786ad4cea13d9ca56852c9a7236a47576c8891a", func := "allotment/allotmentlaw23.GateForms", spec := "gateForms", inPlace := ["math/bits.Add64"], unfollowed := true, recurses := true, apart := false }
def GateFormsSaid : Prop := gateFormsRow.holds Tryz.pinned (OpenSpec.ofChange gateFormsSpec)

/-- ITS FALSE NEIGHBOUR: 'it returns false'. Refute it at one input. -/
def gateFormsWrong : ChangeSpec := { name := "gateForms", fn := fun _ => fun
  | [d1, d2, d3, d4] => { results := [.lit (.bool false)], args := [d1, d2, d3, d4] }
  | _ => none }
def GateFormsWrongFalsely : Prop := gateFormsRow.holds Tryz.pinned (OpenSpec.ofChange gateFormsWrong)

/-- 'allotmentlaw22.PoolNews': WHATEVER THE INPUT: true; the input reads as it did. -/
def poolNewsSpec : ChangeSpec := { name := "poolNews", fn := fun _ => fun
  | [d] => { results := [.lit (.bool true)], args := [d] }
  | _ => none }
def poolNewsRow : OpenClaim := { program := "ytfpghdcjdnifcaagreat", sum := "c7d75b6e0867d0a83186d5145786ad4cea13d9ca56852c9a7236a47576c8891a", func := "allotment/allotmentlaw22.PoolNews", spec := "poolNews", inPlace := ["math/bits.Add64"], unfollowed := true, recurses := true, apart := false }
def PoolNewsSaid : Prop := poolNewsRow.holds Tryz.pinned (OpenSpec.ofChange poolNewsSpec)

/-- ITS FALSE NEIGHBOUR: 'it returns false'. Refute it at one input. -/
def poolNewsWrong : ChangeSpec := { name := "poolNews", fn := fun _ => fun
  | [d] => { results := [.lit (.bool false)], args := [d] }
  | _ => none }
def PoolNewsWrongFalsely : Prop := poolNewsRow.holds Tryz.pinned (OpenSpec.ofChange poolNewsWrong)

/-- 'allotmentlaw22.PoolSlots': WHATEVER THE INPUT: true; the input reads as it did. -/
def poolSlotsSpec : ChangeSpec := { name := "poolSlots", fn := fun _ => fun
  | [d1, d2] => { results := [.lit (.bool true)], args := [d1, d2] }
  | _ => none }
def poolSlotsRow : OpenClaim := { program := "ytfpghdcjdnifcaagreat", sum := "c7d75b6e0867d0a83186d5145786ad4cea13d9ca56852c9a7236a47576c8891a", func := "allotment/allotmentlaw22.PoolSlots", spec := "poolSlots", inPlace := ["math/bits.Add64"], unfollowed := true, recurses := true, apart := false }
def PoolSlotsSaid : Prop := poolSlotsRow.holds Tryz.pinned (OpenSpec.ofChange poolSlotsSpec)

/-- ITS FALSE NEIGHBOUR: 'it returns false'. Refute it at one input. -/
def poolSlotsWrong : ChangeSpec := { name := "poolSlots", fn := fun _ => fun
  | [d1, d2] => { results := [.lit (.bool false)], args := [d1, d2] }
  | _ => none }
def PoolSlotsWrongFalsely : Prop := poolSlotsRow.holds Tryz.pinned (OpenSpec.ofChange poolSlotsWrong)

/-- 'allotmentlaw22.PoolBound': WHATEVER THE INPUT: true; the input reads as it did. -/
def poolBoundSpec : ChangeSpec := { name := "poolBound", fn := fun _ => fun
  | [d1, d2, d3, d4, d5] => { results := [.lit (.bool true)], args := [d1, d2, d3, d4, d5] }
  | _ => none }
def poolBoundRow : OpenClaim := { program := "ytfpghdcjdnifcaagreat", sum := "c7d75b6e0867d0a83186d5145786ad4cea13d9ca56852c9a7236a47576c8891a", func := "allotment/allotmentlaw22.PoolBound", spec := "poolBound", inPlace := ["math/bits.Add64"], unfollowed := true, recurses := true, apart := false }
def PoolBoundSaid : Prop := poolBoundRow.holds Tryz.pinned (OpenSpec.ofChange poolBoundSpec)

/-- ITS FALSE NEIGHBOUR: 'it returns false'. Refute it at one input. -/
def poolBoundWrong : ChangeSpec := { name := "poolBound", fn := fun _ => fun
  | [d1, d2, d3, d4, d5] => { results := [.lit (.bool false)], args := [d1, d2, d3, d4, d5] }
  | _ => none }
def PoolBoundWrongFalsely : Prop := poolBoundRow.holds Tryz.pinned (OpenSpec.ofChange poolBoundWrong)

/-- 'allotmentlaw22.PoolApart': WHATEVER THE INPUT: true; the input reads as it did. -/
def poolApartSpec : ChangeSpec := { name := "poolApart", fn := fun _ => fun
  | [d1, d2, d3, d4] => { results := [.lit (.bool true)], args := [d1, d2, d3, d4] }
  | _ => none }
def poolApartRow : OpenClaim := { program := "ytfpghdcjdnifcaagreat", sum := "c7d75b6e0867d0a83186d5145786ad4cea13d9ca56852c9a7236a47576c8891a", func := "allotment/allotmentlaw22.PoolApart", spec := "poolApart", inPlace := ["math/bits.Add64"], unfollowed := true, recurses := true, apart := false }
def PoolApartSaid : Prop := poolApartRow.holds Tryz.pinned (OpenSpec.ofChange poolApartSpec)

/-- ITS FALSE NEIGHBOUR: 'it returns false'. Refute it at one input. -/
def poolApartWrong : ChangeSpec := { name := "poolApart", fn := fun _ => fun
  | [d1, d2, d3, d4] => { results := [.lit (.bool false)], args := [d1, d2, d3, d4] }
  | _ => none }
def PoolApartWrongFalsely : Prop := poolApartRow.holds Tryz.pinned (OpenSpec.ofChange poolApartWrong)

/-- 'allotmentlaw22.PoolPlays': WHATEVER THE INPUT: true; the input reads as it did. -/
def poolPlaysSpec : ChangeSpec := { name := "poolPlays", fn := fun _ => fun
  | [d1, d2, d3, d4] => { results := [.lit (.bool true)], args := [d1, d2, d3, d4] }
  | _ => none }
def poolPlaysRow : OpenClaim := { program := "ytfpghdcjdnifcaagreat", sum := "c7d75b6e0867d0a83186d5145786ad4cea13d9ca56852c9a7236a47576c8891a", func := "allotment/allotmentlaw22.PoolPlays", spec := "poolPlays", inPlace := ["math/bits.Add64"], unfollowed := true, recurses := true, apart := false }
def PoolPlaysSaid : Prop := poolPlaysRow.holds Tryz.pinned (OpenSpec.ofChange poolPlaysSpec)

/-- ITS FALSE NEIGHBOUR: 'it returns false'. Refute it at one input. -/
def poolPlaysWrong : ChangeSpec := { name := "poolPlays", fn := fun _ => fun
  | [d1, d2, d3, d4] => { results := [.lit (.bool false)], args := [d1, d2, d3, d4] }
  | _ => none }
def PoolPlaysWrongFalsely : Prop := poolPlaysRow.holds Tryz.pinned (OpenSpec.ofChange poolPlaysWrong)

/-- 'allotmentlaw22.PoolDown': WHATEVER THE INPUT: true; the input reads as it did. -/
def poolDownSpec : ChangeSpec := { name := "poolDown", fn := fun _ => fun
  | [d1, d2] => { results := [.lit (.bool true)], args := [d1, d2] }
  | _ => none }
def poolDownRow : OpenClaim := { program := "ytfpghdcjdnifcaagreat", sum := "c7d75b6e0867d0a83186d5145786ad4cea13d9ca56852c9a7236a47576c8891a", func := "allotment/allotmentlaw22.PoolDown", spec := "poolDown", inPlace := ["math/bits.Add64"], unfollowed := true, recurses := true, apart := false }
def PoolDownSaid : Prop := poolDownRow.holds Tryz.pinned (OpenSpec.ofChange poolDownSpec)

/-- ITS FALSE NEIGHBOUR: 'it returns false'. Refute it at one input. -/
def poolDownWrong : ChangeSpec := { name := "poolDown", fn := fun _ => fun
  | [d1, d2] => { results := [.lit (.bool false)], args := [d1, d2] }
  | _ => none }
def PoolDownWrongFalsely : Prop := poolDownRow.holds Tryz.pinned (OpenSpec.ofChange poolDownWrong)

/-- 'allotmentlaw23.GateEpochs': WHATEVER THE INPUT: true; the input reads as it did. -/
def gateEpochsSpec : ChangeSpec := { name := "gateEpochs", fn := fun _ => fun
  | [d1, d2] => { results := [.lit (.bool true)], args := [d1, d2] }
  | _ => none }
def gateEpochsRow : OpenClaim := { program := "ytfpghdcjdnifcaagreat", sum := "c7d75b6e0867d0a83186d5145786ad4cea13d9ca56852c9a7236a47576c8891a", func := "allotment/allotmentlaw23.GateEpochs", spec := "gateEpochs", inPlace := ["math/bits.Add64"], unfollowed := true, recurses := true, apart := false }
def GateEpochsSaid : Prop := gateEpochsRow.holds Tryz.pinned (OpenSpec.ofChange gateEpochsSpec)

/-- ITS FALSE NEIGHBOUR: 'it returns false'. Refute it at one input. -/
def gateEpochsWrong : ChangeSpec := { name := "gateEpochs", fn := fun _ => fun
  | [d1, d2] => { results := [.lit (.bool false)], args := [d1, d2] }
  | _ => none }
def GateEpochsWrongFalsely : Prop := gateEpochsRow.holds Tryz.pinned (OpenSpec.ofChange gateEpochsWrong)

/-- 'allotmentlaw23.GatePlays': WHATEVER THE INPUT: true; the input reads as it did. -/
def gatePlaysSpec : ChangeSpec := { name := "gatePlays", fn := fun _ => fun
  | [d1, d2, d3, d4] => { results := [.lit (.bool true)], args := [d1, d2, d3, d4] }
  | _ => none }
def gatePlaysRow : OpenClaim := { program := "ytfpghdcjdnifcaagreat", sum := "c7d75b6e0867d0a83186d5145786ad4cea13d9ca56852c9a7236a47576c8891a", func := "allotment/allotmentlaw23.GatePlays", spec := "gatePlays", inPlace := ["math/bits.Add64"], unfollowed := true, recurses := true, apart := false }
def GatePlaysSaid : Prop := gatePlaysRow.holds Tryz.pinned (OpenSpec.ofChange gatePlaysSpec)

/-- ITS FALSE NEIGHBOUR: 'it returns false'. Refute it at one input. -/
def gatePlaysWrong : ChangeSpec := { name := "gatePlays", fn := fun _ => fun
  | [d1, d2, d3, d4] => { results := [.lit (.bool false)], args := [d1, d2, d3, d4] }
  | _ => none }
def GatePlaysWrongFalsely : Prop := gatePlaysRow.holds Tryz.pinned (OpenSpec.ofChange gatePlaysWrong)

/-- 'allotmentlaw23.GateRefuses': WHATEVER THE INPUT: true; the input reads as it did. -/
def gateRefusesSpec : ChangeSpec := { name := "gateRefuses", fn := fun _ => fun
  | [d1, d2] => { results := [.lit (.bool true)], args := [d1, d2] }
  | _ => none }
def gateRefusesRow : OpenClaim := { program := "ytfpghdcjdnifcaagreat", sum := "c7d75b6e0867d0a83186d5145786ad4cea13d9ca56852c9a7236a47576c8891a", func := "allotment/allotmentlaw23.GateRefuses", spec := "gateRefuses", inPlace := ["math/bits.Add64"], unfollowed := true, recurses := true, apart := false }
def GateRefusesSaid : Prop := gateRefusesRow.holds Tryz.pinned (OpenSpec.ofChange gateRefusesSpec)

/-- ITS FALSE NEIGHBOUR: 'it returns false'. Refute it at one input. -/
def gateRefusesWrong : ChangeSpec := { name := "gateRefuses", fn := fun _ => fun
  | [d1, d2] => { results := [.lit (.bool false)], args := [d1, d2] }
  | _ => none }
def GateRefusesWrongFalsely : Prop := gateRefusesRow.holds Tryz.pinned (OpenSpec.ofChange gateRefusesWrong)

/- THE SECOND FORM. 'bulk': how many values and letters a reading holds, each counted each time it is reached (what is shared counts as often as it is met; a slice's spare places count too). A statement '..UptoSaid' is the law's where the arguments, and the package variables that the reading takes, are together of bulk at most 1048576: NARROWER than '..Said'. Prove '..Said' where nothing that the law and all that it calls make is longer than what came in: it says more and counts as full. Else prove '..UptoSaid'. A law counts once. -/
mutual
def uptoBulk {H : Type} : DataW H → Nat
  | .lit (.string bytes) => bytes.length + 1
  | .lit _ => 1
  | .nil => 1
  | .ptr d => uptoBulk d + 1
  | .slice elems spare => uptoBulkAll elems + uptoBulkAll spare + 1
  | .agg parts => uptoBulkAll parts + 1
  | .iface _ d => uptoBulk d + 1
  | .map entries => uptoBulkEntries entries + 1
  | .held _ => 1
def uptoBulkAll {H : Type} : List (DataW H) → Nat
  | [] => 0
  | d :: r => uptoBulk d + uptoBulkAll r
def uptoBulkEntries {H : Type} : List (Lit × DataW H) → Nat
  | [] => 0
  | x :: r => uptoBulkEntry x + uptoBulkEntries r
def uptoBulkEntry {H : Type} : Lit × DataW H → Nat
  | (.string bytes, d) => bytes.length + uptoBulk d + 1
  | (_, d) => uptoBulk d + 1
 end
def uptoSmall : (H : Type) → List (DataW H) → Bool := fun _ ds => decide (uptoBulkAll ds ≤ 1048576)
def OpenSpec.upto (s : _root_.Go.ChangeSpec) : _root_.Go.OpenSpec := { _root_.Go.OpenSpec.ofChange s with cond := some uptoSmall }

/-- 'allotmentlaw23.GateNews', WHERE WHAT IT READS IS OF BULK AT MOST 1048576: true; the input reads as it did. -/
def gateNewsUptoRow : OpenClaim := { program := "ytfpghdcjdnifcaagreat", sum := "c7d75b6e0867d0a83186d5145786ad4cea13d9ca56852c9a7236a47576c8891a", func := "allotment/allotmentlaw23.GateNews", spec := "gateNews", inPlace := ["math/bits.Add64"], unfollowed := true, recurses := true, apart := false, narrowed := true }
def GateNewsUptoSaid : Prop := gateNewsUptoRow.holds Tryz.pinned (OpenSpec.upto gateNewsSpec)

/-- 'allotmentlaw23.GateRights', WHERE WHAT IT READS IS OF BULK AT MOST 1048576: true; the input reads as it did. -/
def gateRightsUptoRow : OpenClaim := { program := "ytfpghdcjdnifcaagreat", sum := "c7d75b6e0867d0a83186d5145786ad4cea13d9ca56852c9a7236a47576c8891a", func := "allotment/allotmentlaw23.GateRights", spec := "gateRights", inPlace := ["math/bits.Add64"], unfollowed := true, recurses := true, apart := false, narrowed := true }
def GateRightsUptoSaid : Prop := gateRightsUptoRow.holds Tryz.pinned (OpenSpec.upto gateRightsSpec)

/-- 'allotmentlaw23.GateForms', WHERE WHAT IT READS IS OF BULK AT MOST 1048576: true; the input reads as it did. -/
def gateFormsUptoRow : OpenClaim := { program := "ytfpghdcjdnifcaagreat", sum := "c7d75b6e0867d0a83186d5145786ad4cea13d9ca56852c9a7236a47576c8891a", func := "allotment/allotmentlaw23.GateForms", spec := "gateForms", inPlace := ["math/bits.Add64"], unfollowed := true, recurses := true, apart := false, narrowed := true }
def GateFormsUptoSaid : Prop := gateFormsUptoRow.holds Tryz.pinned (OpenSpec.upto gateFormsSpec)

/-- 'allotmentlaw22.PoolNews', WHERE WHAT IT READS IS OF BULK AT MOST 1048576: true; the input reads as it did. -/
def poolNewsUptoRow : OpenClaim := { program := "ytfpghdcjdnifcaagreat", sum := "c7d75b6e0867d0a83186d5145786ad4cea13d9ca56852c9a7236a47576c8891a", func := "allotment/allotmentlaw22.PoolNews", spec := "poolNews", inPlace := ["math/bits.Add64"], unfollowed := true, recurses := true, apart := false, narrowed := true }
def PoolNewsUptoSaid : Prop := poolNewsUptoRow.holds Tryz.pinned (OpenSpec.upto poolNewsSpec)

/-- 'allotmentlaw22.PoolSlots', WHERE WHAT IT READS IS OF BULK AT MOST 1048576: true; the input reads as it did. -/
def poolSlotsUptoRow : OpenClaim := { program := "ytfpghdcjdnifcaagreat", sum := "c7d75b6e0867d0a83186d5145786ad4cea13d9ca56852c9a7236a47576c8891a", func := "allotment/allotmentlaw22.PoolSlots", spec := "poolSlots", inPlace := ["math/bits.Add64"], unfollowed := true, recurses := true, apart := false, narrowed := true }
def PoolSlotsUptoSaid : Prop := poolSlotsUptoRow.holds Tryz.pinned (OpenSpec.upto poolSlotsSpec)

/-- 'allotmentlaw22.PoolBound', WHERE WHAT IT READS IS OF BULK AT MOST 1048576: true; the input reads as it did. -/
def poolBoundUptoRow : OpenClaim := { program := "ytfpghdcjdnifcaagreat", sum := "c7d75b6e0867d0a83186d5145786ad4cea13d9ca56852c9a7236a47576c8891a", func := "allotment/allotmentlaw22.PoolBound", spec := "poolBound", inPlace := ["math/bits.Add64"], unfollowed := true, recurses := true, apart := false, narrowed := true }
def PoolBoundUptoSaid : Prop := poolBoundUptoRow.holds Tryz.pinned (OpenSpec.upto poolBoundSpec)

/-- 'allotmentlaw22.PoolApart', WHERE WHAT IT READS IS OF BULK AT MOST 1048576: true; the input reads as it did. -/
def poolApartUptoRow : OpenClaim := { program := "ytfpghdcjdnifcaagreat", sum := "c7d75b6e0867d0a83186d5145786ad4cea13d9ca56852c9a7236a47576c8891a", func := "allotment/allotmentlaw22.PoolApart", spec := "poolApart", inPlace := ["math/bits.Add64"], unfollowed := true, recurses := true, apart := false, narrowed := true }
def PoolApartUptoSaid : Prop := poolApartUptoRow.holds Tryz.pinned (OpenSpec.upto poolApartSpec)

/-- 'allotmentlaw22.PoolPlays', WHERE WHAT IT READS IS OF BULK AT MOST 1048576: true; the input reads as it did. -/
def poolPlaysUptoRow : OpenClaim := { program := "ytfpghdcjdnifcaagreat", sum := "c7d75b6e0867d0a83186d5145786ad4cea13d9ca56852c9a7236a47576c8891a", func := "allotment/allotmentlaw22.PoolPlays", spec := "poolPlays", inPlace := ["math/bits.Add64"], unfollowed := true, recurses := true, apart := false, narrowed := true }
def PoolPlaysUptoSaid : Prop := poolPlaysUptoRow.holds Tryz.pinned (OpenSpec.upto poolPlaysSpec)

/-- 'allotmentlaw22.PoolDown', WHERE WHAT IT READS IS OF BULK AT MOST 1048576: true; the input reads as it did. -/
def poolDownUptoRow : OpenClaim := { program := "ytfpghdcjdnifcaagreat", sum := "c7d75b6e0867d0a83186d5145786ad4cea13d9ca56852c9a7236a47576c8891a", func := "allotment/allotmentlaw22.PoolDown", spec := "poolDown", inPlace := ["math/bits.Add64"], unfollowed := true, recurses := true, apart := false, narrowed := true }
def PoolDownUptoSaid : Prop := poolDownUptoRow.holds Tryz.pinned (OpenSpec.upto poolDownSpec)

/-- 'allotmentlaw23.GateEpochs', WHERE WHAT IT READS IS OF BULK AT MOST 1048576: true; the input reads as it did. -/
def gateEpochsUptoRow : OpenClaim := { program := "ytfpghdcjdnifcaagreat", sum := "c7d75b6e0867d0a83186d5145786ad4cea13d9ca56852c9a7236a47576c8891a", func := "allotment/allotmentlaw23.GateEpochs", spec := "gateEpochs", inPlace := ["math/bits.Add64"], unfollowed := true, recurses := true, apart := false, narrowed := true }
def GateEpochsUptoSaid : Prop := gateEpochsUptoRow.holds Tryz.pinned (OpenSpec.upto gateEpochsSpec)

/-- 'allotmentlaw23.GatePlays', WHERE WHAT IT READS IS OF BULK AT MOST 1048576: true; the input reads as it did. -/
def gatePlaysUptoRow : OpenClaim := { program := "ytfpghdcjdnifcaagreat", sum := "c7d75b6e0867d0a83186d5145786ad4cea13d9ca56852c9a7236a47576c8891a", func := "allotment/allotmentlaw23.GatePlays", spec := "gatePlays", inPlace := ["math/bits.Add64"], unfollowed := true, recurses := true, apart := false, narrowed := true }
def GatePlaysUptoSaid : Prop := gatePlaysUptoRow.holds Tryz.pinned (OpenSpec.upto gatePlaysSpec)

/-- 'allotmentlaw23.GateRefuses', WHERE WHAT IT READS IS OF BULK AT MOST 1048576: true; the input reads as it did. -/
def gateRefusesUptoRow : OpenClaim := { program := "ytfpghdcjdnifcaagreat", sum := "c7d75b6e0867d0a83186d5145786ad4cea13d9ca56852c9a7236a47576c8891a", func := "allotment/allotmentlaw23.GateRefuses", spec := "gateRefuses", inPlace := ["math/bits.Add64"], unfollowed := true, recurses := true, apart := false, narrowed := true }
def GateRefusesUptoSaid : Prop := gateRefusesUptoRow.holds Tryz.pinned (OpenSpec.upto gateRefusesSpec)

end Rows
end Go.Proofs.YtfpghdcjdnifcaaGreat
