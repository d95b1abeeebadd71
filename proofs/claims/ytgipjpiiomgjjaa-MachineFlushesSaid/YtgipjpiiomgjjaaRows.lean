/-
  No cell of these rows narrows 'for every input' (looked for: loops, veiled, ifaces, maps, wideKeys, modest, calm, conditions, laid).
  DERIVED. THE GIVEN ROWS OF THIS SEAT. 6 by the template 'for every input the law returns true; each argument reads behind the call as it read before'; 0 by the template 'total and deterministic' (their statements: YtgipjpiiomgjjaaTotals.lean).
  GIVEN WITH THE SEED: the statements are not yours to turn. If you find one false, say at which input.
  Laid BY PROGRAM, IN A SANDBOX (cutbox-rows.mjs): the forced cells as the released guide's own fill.sh prints them over the translation 034c278b47b67770… (all of the seat's roots in one cut). By AI agents, Wed Nov 11 2026. No macro, syntax, notation, axiom, sorry.
-/
import Derived.Test.YtgipjpiiomgjjaaChecked
import GoSem.Claim
import GoSem.ClaimJoined
import GoSem.ClaimMapViews
import Derived.JoinedTies
import Derived.KernelRfl
namespace Go.Proofs.Ytgipjpiiomgjjaa
/- THE CELL 'sum', in the pinned program and in every row, IS THE sha256 OF THE DUMP (.gsa) THAT YtgipjpiiomgjjaaProg.lean LOADS. Nothing in Lean hashes anything: it is a label: what it is worth is what the hold of that sum in a sandbox is worth. -/
noncomputable def Try.pinned : Pinned := { name := "ytgipjpiiomgjjaa", sum := "034c278b47b67770ad92ab7a8616a9e373a65a8d5679fa472f050eb0fc81bc1e", checked := Try.checked }
namespace Rows
def none {H : Type} : Left H := { results := [], args := [] }

/-- 'allotmentlaw20.MachineFails': WHATEVER THE INPUT: true; the input reads as it did. -/
def machineFailsSpec : ChangeSpec := { name := "machineFails", fn := fun _ => fun
  | [d1, d2, d3] => { results := [.lit (.bool true)], args := [d1, d2, d3] }
  | _ => none }
def machineFailsRow : OpenClaim := { program := "ytgipjpiiomgjjaa", sum := "034c278b47b67770ad92ab7a8616a9e373a65a8d5679fa472f050eb0fc81bc1e", func := "allotment/allotmentlaw20.MachineFails", spec := "machineFails", unfollowed := true, recurses := true, apart := false }
def MachineFailsSaid : Prop := machineFailsRow.holds Try.pinned (OpenSpec.ofChange machineFailsSpec)

/-- ITS FALSE NEIGHBOUR: 'it returns false'. Refute it at one input. -/
def machineFailsWrong : ChangeSpec := { name := "machineFails", fn := fun _ => fun
  | [d1, d2, d3] => { results := [.lit (.bool false)], args := [d1, d2, d3] }
  | _ => none }
def MachineFailsWrongFalsely : Prop := machineFailsRow.holds Try.pinned (OpenSpec.ofChange machineFailsWrong)

/-- 'allotmentlaw20.MachineKeeps': WHATEVER THE INPUT: true; the input reads as it did. -/
def machineKeepsSpec : ChangeSpec := { name := "machineKeeps", fn := fun _ => fun
  | [d1, d2, d3] => { results := [.lit (.bool true)], args := [d1, d2, d3] }
  | _ => none }
def machineKeepsRow : OpenClaim := { program := "ytgipjpiiomgjjaa", sum := "034c278b47b67770ad92ab7a8616a9e373a65a8d5679fa472f050eb0fc81bc1e", func := "allotment/allotmentlaw20.MachineKeeps", spec := "machineKeeps", unfollowed := true, recurses := true, apart := false }
def MachineKeepsSaid : Prop := machineKeepsRow.holds Try.pinned (OpenSpec.ofChange machineKeepsSpec)

/-- ITS FALSE NEIGHBOUR: 'it returns false'. Refute it at one input. -/
def machineKeepsWrong : ChangeSpec := { name := "machineKeeps", fn := fun _ => fun
  | [d1, d2, d3] => { results := [.lit (.bool false)], args := [d1, d2, d3] }
  | _ => none }
def MachineKeepsWrongFalsely : Prop := machineKeepsRow.holds Try.pinned (OpenSpec.ofChange machineKeepsWrong)

/-- 'allotmentlaw20.MachinePlays': WHATEVER THE INPUT: true; the input reads as it did. -/
def machinePlaysSpec : ChangeSpec := { name := "machinePlays", fn := fun _ => fun
  | [d1, d2, d3] => { results := [.lit (.bool true)], args := [d1, d2, d3] }
  | _ => none }
def machinePlaysRow : OpenClaim := { program := "ytgipjpiiomgjjaa", sum := "034c278b47b67770ad92ab7a8616a9e373a65a8d5679fa472f050eb0fc81bc1e", func := "allotment/allotmentlaw20.MachinePlays", spec := "machinePlays", unfollowed := true, recurses := true, apart := false }
def MachinePlaysSaid : Prop := machinePlaysRow.holds Try.pinned (OpenSpec.ofChange machinePlaysSpec)

/-- ITS FALSE NEIGHBOUR: 'it returns false'. Refute it at one input. -/
def machinePlaysWrong : ChangeSpec := { name := "machinePlays", fn := fun _ => fun
  | [d1, d2, d3] => { results := [.lit (.bool false)], args := [d1, d2, d3] }
  | _ => none }
def MachinePlaysWrongFalsely : Prop := machinePlaysRow.holds Try.pinned (OpenSpec.ofChange machinePlaysWrong)

/-- 'allotmentlaw20.MachineMost': WHATEVER THE INPUT: true; the input reads as it did. -/
def machineMostSpec : ChangeSpec := { name := "machineMost", fn := fun _ => fun
  | [d1, d2] => { results := [.lit (.bool true)], args := [d1, d2] }
  | _ => none }
def machineMostRow : OpenClaim := { program := "ytgipjpiiomgjjaa", sum := "034c278b47b67770ad92ab7a8616a9e373a65a8d5679fa472f050eb0fc81bc1e", func := "allotment/allotmentlaw20.MachineMost", spec := "machineMost", unfollowed := true, recurses := true, apart := false }
def MachineMostSaid : Prop := machineMostRow.holds Try.pinned (OpenSpec.ofChange machineMostSpec)

/-- ITS FALSE NEIGHBOUR: 'it returns false'. Refute it at one input. -/
def machineMostWrong : ChangeSpec := { name := "machineMost", fn := fun _ => fun
  | [d1, d2] => { results := [.lit (.bool false)], args := [d1, d2] }
  | _ => none }
def MachineMostWrongFalsely : Prop := machineMostRow.holds Try.pinned (OpenSpec.ofChange machineMostWrong)

/-- 'allotmentlaw20.MachineStops': WHATEVER THE INPUT: true; the input reads as it did. -/
def machineStopsSpec : ChangeSpec := { name := "machineStops", fn := fun _ => fun
  | [d1, d2] => { results := [.lit (.bool true)], args := [d1, d2] }
  | _ => none }
def machineStopsRow : OpenClaim := { program := "ytgipjpiiomgjjaa", sum := "034c278b47b67770ad92ab7a8616a9e373a65a8d5679fa472f050eb0fc81bc1e", func := "allotment/allotmentlaw20.MachineStops", spec := "machineStops", unfollowed := true, recurses := true, apart := false }
def MachineStopsSaid : Prop := machineStopsRow.holds Try.pinned (OpenSpec.ofChange machineStopsSpec)

/-- ITS FALSE NEIGHBOUR: 'it returns false'. Refute it at one input. -/
def machineStopsWrong : ChangeSpec := { name := "machineStops", fn := fun _ => fun
  | [d1, d2] => { results := [.lit (.bool false)], args := [d1, d2] }
  | _ => none }
def MachineStopsWrongFalsely : Prop := machineStopsRow.holds Try.pinned (OpenSpec.ofChange machineStopsWrong)

/-- 'allotmentlaw20.MachineFlushes': WHATEVER THE INPUT: true; the input reads as it did. -/
def machineFlushesSpec : ChangeSpec := { name := "machineFlushes", fn := fun _ => fun
  | [d1, d2] => { results := [.lit (.bool true)], args := [d1, d2] }
  | _ => none }
def machineFlushesRow : OpenClaim := { program := "ytgipjpiiomgjjaa", sum := "034c278b47b67770ad92ab7a8616a9e373a65a8d5679fa472f050eb0fc81bc1e", func := "allotment/allotmentlaw20.MachineFlushes", spec := "machineFlushes", unfollowed := true, recurses := true, apart := false }
def MachineFlushesSaid : Prop := machineFlushesRow.holds Try.pinned (OpenSpec.ofChange machineFlushesSpec)

/-- ITS FALSE NEIGHBOUR: 'it returns false'. Refute it at one input. -/
def machineFlushesWrong : ChangeSpec := { name := "machineFlushes", fn := fun _ => fun
  | [d1, d2] => { results := [.lit (.bool false)], args := [d1, d2] }
  | _ => none }
def MachineFlushesWrongFalsely : Prop := machineFlushesRow.holds Try.pinned (OpenSpec.ofChange machineFlushesWrong)

/- THE SECOND FORM. 'bulk': how many values and letters a reading holds, each counted each time it is reached (what is shared counts as often as it is met; a slice's spare places count too). A statement '..UptoSaid' is the law's where the arguments, and the package variables that the reading takes, are together of bulk at most 1048576: NARROWER than '..Said'. Prove '..Said' where nothing that the law and all that it calls make is longer than what came in: it says more and counts as full. Else prove '..UptoSaid'. A law counts once. -/
mutual
def uptoBulk {H : Type} : DataW H → Nat
  | .lit (.string bytes) => bytes.length + 1
  | .lit _ => 1
  | .nil => 1
  | .ptr d => uptoBulk d + 1
  | .slice elems spare => uptoBulkAll elems + uptoBulkAll spare + 1
  | .agg parts => uptoBulkAll parts + 1
  | .iface _ d => uptoBulk d + 1
  | .map entries => uptoBulkEntries entries + 1
  | .held _ => 1
def uptoBulkAll {H : Type} : List (DataW H) → Nat
  | [] => 0
  | d :: r => uptoBulk d + uptoBulkAll r
def uptoBulkEntries {H : Type} : List (Lit × DataW H) → Nat
  | [] => 0
  | x :: r => uptoBulkEntry x + uptoBulkEntries r
def uptoBulkEntry {H : Type} : Lit × DataW H → Nat
  | (.string bytes, d) => bytes.length + uptoBulk d + 1
  | (_, d) => uptoBulk d + 1
 end
def uptoSmall : (H : Type) → List (DataW H) → Bool := fun _ ds => decide (uptoBulkAll ds ≤ 1048576)
def OpenSpec.upto (s : _root_.Go.ChangeSpec) : _root_.Go.OpenSpec := { _root_.Go.OpenSpec.ofChange s with cond := some uptoSmall }

/-- 'allotmentlaw20.MachineFails', WHERE WHAT IT READS IS OF BULK AT MOST 1048576: true; the input reads as it did. -/
def machineFailsUptoRow : OpenClaim := { program := "ytgipjpiiomgjjaa", sum := "034c278b47b67770ad92ab7a8616a9e373a65a8d5679fa472f050eb0fc81bc1e", func := "allotment/allotmentlaw20.MachineFails", spec := "machineFails", unfollowed := true, recurses := true, apart := false, narrowed := true }
def MachineFailsUptoSaid : Prop := machineFailsUptoRow.holds Try.pinned (OpenSpec.upto machineFailsSpec)

/-- 'allotmentlaw20.MachineKeeps', WHERE WHAT IT READS IS OF BULK AT MOST 1048576: true; the input reads as it did. -/
def machineKeepsUptoRow : OpenClaim := { program := "ytgipjpiiomgjjaa", sum := "034c278b47b67770ad92ab7a8616a9e373a65a8d5679fa472f050eb0fc81bc1e", func := "allotment/allotmentlaw20.MachineKeeps", spec := "machineKeeps", unfollowed := true, recurses := true, apart := false, narrowed := true }
def MachineKeepsUptoSaid : Prop := machineKeepsUptoRow.holds Try.pinned (OpenSpec.upto machineKeepsSpec)

/-- 'allotmentlaw20.MachinePlays', WHERE WHAT IT READS IS OF BULK AT MOST 1048576: true; the input reads as it did. -/
def machinePlaysUptoRow : OpenClaim := { program := "ytgipjpiiomgjjaa", sum := "034c278b47b67770ad92ab7a8616a9e373a65a8d5679fa472f050eb0fc81bc1e", func := "allotment/allotmentlaw20.MachinePlays", spec := "machinePlays", unfollowed := true, recurses := true, apart := false, narrowed := true }
def MachinePlaysUptoSaid : Prop := machinePlaysUptoRow.holds Try.pinned (OpenSpec.upto machinePlaysSpec)

/-- 'allotmentlaw20.MachineMost', WHERE WHAT IT READS IS OF BULK AT MOST 1048576: true; the input reads as it did. -/
def machineMostUptoRow : OpenClaim := { program := "ytgipjpiiomgjjaa", sum := "034c278b47b67770ad92ab7a8616a9e373a65a8d5679fa472f050eb0fc81bc1e", func := "allotment/allotmentlaw20.MachineMost", spec := "machineMost", unfollowed := true, recurses := true, apart := false, narrowed := true }
def MachineMostUptoSaid : Prop := machineMostUptoRow.holds Try.pinned (OpenSpec.upto machineMostSpec)

/-- 'allotmentlaw20.MachineStops', WHERE WHAT IT READS IS OF BULK AT MOST 1048576: true; the input reads as it did. -/
def machineStopsUptoRow : OpenClaim := { program := "ytgipjpiiomgjjaa", sum := "034c278b47b67770ad92ab7a8616a9e373a65a8d5679fa472f050eb0fc81bc1e", func := "allotment/allotmentlaw20.MachineStops", spec := "machineStops", unfollowed := true, recurses := true, apart := false, narrowed := true }
def MachineStopsUptoSaid : Prop := machineStopsUptoRow.holds Try.pinned (OpenSpec.upto machineStopsSpec)

/-- 'allotmentlaw20.MachineFlushes', WHERE WHAT IT READS IS OF BULK AT MOST 1048576: true; the input reads as it did. -/
def machineFlushesUptoRow : OpenClaim := { program := "ytgipjpiiomgjjaa", sum := "034c278b47b67770ad92ab7a8616a9e373a65a8d5679fa472f050eb0fc81bc1e", func := "allotment/allotmentlaw20.MachineFlushes", spec := "machineFlushes", unfollowed := true, recurses := true, apart := false, narrowed := true }
def MachineFlushesUptoSaid : Prop := machineFlushesUptoRow.holds Try.pinned (OpenSpec.upto machineFlushesSpec)

end Rows
end Go.Proofs.Ytgipjpiiomgjjaa
