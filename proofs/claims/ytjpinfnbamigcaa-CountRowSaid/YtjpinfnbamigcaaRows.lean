/-
  No cell of these rows narrows 'for every input' (looked for: loops, veiled, ifaces, maps, wideKeys, modest, calm, conditions, laid).
  DERIVED. THE GIVEN ROWS OF THIS SEAT. 6 by the template 'for every input the law returns true; each argument reads behind the call as it read before'; 0 by the template 'total and deterministic' (their statements: YtjpinfnbamigcaaTotals.lean).
  GIVEN WITH THE SEED: the statements are not yours to turn. If you find one false, say at which input.
  Laid BY PROGRAM, IN A SANDBOX (cutbox-rows.mjs): the forced cells as the released guide's own fill.sh prints them over the translation b83b5356df8f0a3d… (all of the seat's roots in one cut). By AI agents, Wed Nov 11 2026. No macro, syntax, notation, axiom, sorry.
-/
import Derived.Test.YtjpinfnbamigcaaChecked
import GoSem.Claim
import GoSem.ClaimJoined
import GoSem.ClaimMapViews
import Derived.JoinedTies
import Derived.KernelRfl
namespace Go.Proofs.Ytjpinfnbamigcaa
/- THE CELL 'sum', in the pinned program and in every row, IS THE sha256 OF THE DUMP (.gsa) THAT YtjpinfnbamigcaaProg.lean LOADS. Nothing in Lean hashes anything: it is a label: what it is worth is what the hold of that sum in a sandbox is worth. -/
noncomputable def Try.pinned : Pinned := { name := "ytjpinfnbamigcaa", sum := "b83b5356df8f0a3d6ba5d9f999687399c0533c080e83fbfb55178f675e3bd20a", checked := Try.checked }
namespace Rows
def none {H : Type} : Left H := { results := [], args := [] }

/-- 'allotmentlaw04.CountNames': WHATEVER THE INPUT: true; the input reads as it did. -/
def countNamesSpec : ChangeSpec := { name := "countNames", fn := fun _ => fun
  | [d] => { results := [.lit (.bool true)], args := [d] }
  | _ => none }
def countNamesRow : OpenClaim := { program := "ytjpinfnbamigcaa", sum := "b83b5356df8f0a3d6ba5d9f999687399c0533c080e83fbfb55178f675e3bd20a", func := "allotment/allotmentlaw04.CountNames", spec := "countNames", inPlace := ["math/bits.Add64"], apart := false }
def CountNamesSaid : Prop := countNamesRow.holds Try.pinned (OpenSpec.ofChange countNamesSpec)

/-- ITS FALSE NEIGHBOUR: 'it returns false'. Refute it at one input. -/
def countNamesWrong : ChangeSpec := { name := "countNames", fn := fun _ => fun
  | [d] => { results := [.lit (.bool false)], args := [d] }
  | _ => none }
def CountNamesWrongFalsely : Prop := countNamesRow.holds Try.pinned (OpenSpec.ofChange countNamesWrong)

/-- 'allotmentlaw04.CountAdds': WHATEVER THE INPUT: true; the input reads as it did. -/
def countAddsSpec : ChangeSpec := { name := "countAdds", fn := fun _ => fun
  | [d1, d2, d3] => { results := [.lit (.bool true)], args := [d1, d2, d3] }
  | _ => none }
def countAddsRow : OpenClaim := { program := "ytjpinfnbamigcaa", sum := "b83b5356df8f0a3d6ba5d9f999687399c0533c080e83fbfb55178f675e3bd20a", func := "allotment/allotmentlaw04.CountAdds", spec := "countAdds", inPlace := ["math/bits.Add64"], apart := false }
def CountAddsSaid : Prop := countAddsRow.holds Try.pinned (OpenSpec.ofChange countAddsSpec)

/-- ITS FALSE NEIGHBOUR: 'it returns false'. Refute it at one input. -/
def countAddsWrong : ChangeSpec := { name := "countAdds", fn := fun _ => fun
  | [d1, d2, d3] => { results := [.lit (.bool false)], args := [d1, d2, d3] }
  | _ => none }
def CountAddsWrongFalsely : Prop := countAddsRow.holds Try.pinned (OpenSpec.ofChange countAddsWrong)

/-- 'allotmentlaw04.CountRow': WHATEVER THE INPUT: true; the input reads as it did. -/
def countRowSpec : ChangeSpec := { name := "countRow", fn := fun _ => fun
  | [d1, d2, d3] => { results := [.lit (.bool true)], args := [d1, d2, d3] }
  | _ => none }
def countRowRow : OpenClaim := { program := "ytjpinfnbamigcaa", sum := "b83b5356df8f0a3d6ba5d9f999687399c0533c080e83fbfb55178f675e3bd20a", func := "allotment/allotmentlaw04.CountRow", spec := "countRow", inPlace := ["math/bits.Add64"], apart := false }
def CountRowSaid : Prop := countRowRow.holds Try.pinned (OpenSpec.ofChange countRowSpec)

/-- ITS FALSE NEIGHBOUR: 'it returns false'. Refute it at one input. -/
def countRowWrong : ChangeSpec := { name := "countRow", fn := fun _ => fun
  | [d1, d2, d3] => { results := [.lit (.bool false)], args := [d1, d2, d3] }
  | _ => none }
def CountRowWrongFalsely : Prop := countRowRow.holds Try.pinned (OpenSpec.ofChange countRowWrong)

/-- 'allotmentlaw04.CountGets': WHATEVER THE INPUT: true; the input reads as it did. -/
def countGetsSpec : ChangeSpec := { name := "countGets", fn := fun _ => fun
  | [d1, d2, d3] => { results := [.lit (.bool true)], args := [d1, d2, d3] }
  | _ => none }
def countGetsRow : OpenClaim := { program := "ytjpinfnbamigcaa", sum := "b83b5356df8f0a3d6ba5d9f999687399c0533c080e83fbfb55178f675e3bd20a", func := "allotment/allotmentlaw04.CountGets", spec := "countGets", inPlace := ["math/bits.Add64"], apart := false }
def CountGetsSaid : Prop := countGetsRow.holds Try.pinned (OpenSpec.ofChange countGetsSpec)

/-- ITS FALSE NEIGHBOUR: 'it returns false'. Refute it at one input. -/
def countGetsWrong : ChangeSpec := { name := "countGets", fn := fun _ => fun
  | [d1, d2, d3] => { results := [.lit (.bool false)], args := [d1, d2, d3] }
  | _ => none }
def CountGetsWrongFalsely : Prop := countGetsRow.holds Try.pinned (OpenSpec.ofChange countGetsWrong)

/-- 'allotmentlaw04.CountSums': WHATEVER THE INPUT: true; the input reads as it did. -/
def countSumsSpec : ChangeSpec := { name := "countSums", fn := fun _ => fun
  | [d] => { results := [.lit (.bool true)], args := [d] }
  | _ => none }
def countSumsRow : OpenClaim := { program := "ytjpinfnbamigcaa", sum := "b83b5356df8f0a3d6ba5d9f999687399c0533c080e83fbfb55178f675e3bd20a", func := "allotment/allotmentlaw04.CountSums", spec := "countSums", inPlace := ["math/bits.Add64"], apart := false }
def CountSumsSaid : Prop := countSumsRow.holds Try.pinned (OpenSpec.ofChange countSumsSpec)

/-- ITS FALSE NEIGHBOUR: 'it returns false'. Refute it at one input. -/
def countSumsWrong : ChangeSpec := { name := "countSums", fn := fun _ => fun
  | [d] => { results := [.lit (.bool false)], args := [d] }
  | _ => none }
def CountSumsWrongFalsely : Prop := countSumsRow.holds Try.pinned (OpenSpec.ofChange countSumsWrong)

/-- 'allotmentlaw04.CountParts': WHATEVER THE INPUT: true; the input reads as it did. -/
def countPartsSpec : ChangeSpec := { name := "countParts", fn := fun _ => fun
  | [d1, d2] => { results := [.lit (.bool true)], args := [d1, d2] }
  | _ => none }
def countPartsRow : OpenClaim := { program := "ytjpinfnbamigcaa", sum := "b83b5356df8f0a3d6ba5d9f999687399c0533c080e83fbfb55178f675e3bd20a", func := "allotment/allotmentlaw04.CountParts", spec := "countParts", inPlace := ["math/bits.Add64"], apart := false }
def CountPartsSaid : Prop := countPartsRow.holds Try.pinned (OpenSpec.ofChange countPartsSpec)

/-- ITS FALSE NEIGHBOUR: 'it returns false'. Refute it at one input. -/
def countPartsWrong : ChangeSpec := { name := "countParts", fn := fun _ => fun
  | [d1, d2] => { results := [.lit (.bool false)], args := [d1, d2] }
  | _ => none }
def CountPartsWrongFalsely : Prop := countPartsRow.holds Try.pinned (OpenSpec.ofChange countPartsWrong)

/- THE SECOND FORM. 'bulk': how many values and letters a reading holds, each counted each time it is reached (what is shared counts as often as it is met; a slice's spare places count too). A statement '..UptoSaid' is the law's where the arguments, and the package variables that the reading takes, are together of bulk at most 1048576: NARROWER than '..Said'. Prove '..Said' where nothing that the law and all that it calls make is longer than what came in: it says more and counts as full. Else prove '..UptoSaid'. A law counts once. -/
mutual
def uptoBulk {H : Type} : DataW H → Nat
  | .lit (.string bytes) => bytes.length + 1
  | .lit _ => 1
  | .nil => 1
  | .ptr d => uptoBulk d + 1
  | .slice elems spare => uptoBulkAll elems + uptoBulkAll spare + 1
  | .agg parts => uptoBulkAll parts + 1
  | .iface _ d => uptoBulk d + 1
  | .map entries => uptoBulkEntries entries + 1
  | .held _ => 1
def uptoBulkAll {H : Type} : List (DataW H) → Nat
  | [] => 0
  | d :: r => uptoBulk d + uptoBulkAll r
def uptoBulkEntries {H : Type} : List (Lit × DataW H) → Nat
  | [] => 0
  | x :: r => uptoBulkEntry x + uptoBulkEntries r
def uptoBulkEntry {H : Type} : Lit × DataW H → Nat
  | (.string bytes, d) => bytes.length + uptoBulk d + 1
  | (_, d) => uptoBulk d + 1
 end
def uptoSmall : (H : Type) → List (DataW H) → Bool := fun _ ds => decide (uptoBulkAll ds ≤ 1048576)
def OpenSpec.upto (s : _root_.Go.ChangeSpec) : _root_.Go.OpenSpec := { _root_.Go.OpenSpec.ofChange s with cond := some uptoSmall }

/-- 'allotmentlaw04.CountNames', WHERE WHAT IT READS IS OF BULK AT MOST 1048576: true; the input reads as it did. -/
def countNamesUptoRow : OpenClaim := { program := "ytjpinfnbamigcaa", sum := "b83b5356df8f0a3d6ba5d9f999687399c0533c080e83fbfb55178f675e3bd20a", func := "allotment/allotmentlaw04.CountNames", spec := "countNames", inPlace := ["math/bits.Add64"], apart := false, narrowed := true }
def CountNamesUptoSaid : Prop := countNamesUptoRow.holds Try.pinned (OpenSpec.upto countNamesSpec)

/-- 'allotmentlaw04.CountAdds', WHERE WHAT IT READS IS OF BULK AT MOST 1048576: true; the input reads as it did. -/
def countAddsUptoRow : OpenClaim := { program := "ytjpinfnbamigcaa", sum := "b83b5356df8f0a3d6ba5d9f999687399c0533c080e83fbfb55178f675e3bd20a", func := "allotment/allotmentlaw04.CountAdds", spec := "countAdds", inPlace := ["math/bits.Add64"], apart := false, narrowed := true }
def CountAddsUptoSaid : Prop := countAddsUptoRow.holds Try.pinned (OpenSpec.upto countAddsSpec)

/-- 'allotmentlaw04.CountRow', WHERE WHAT IT READS IS OF BULK AT MOST 1048576: true; the input reads as it did. -/
def countRowUptoRow : OpenClaim := { program := "ytjpinfnbamigcaa", sum := "b83b5356df8f0a3d6ba5d9f999687399c0533c080e83fbfb55178f675e3bd20a", func := "allotment/allotmentlaw04.CountRow", spec := "countRow", inPlace := ["math/bits.Add64"], apart := false, narrowed := true }
def CountRowUptoSaid : Prop := countRowUptoRow.holds Try.pinned (OpenSpec.upto countRowSpec)

/-- 'allotmentlaw04.CountGets', WHERE WHAT IT READS IS OF BULK AT MOST 1048576: true; the input reads as it did. -/
def countGetsUptoRow : OpenClaim := { program := "ytjpinfnbamigcaa", sum := "b83b5356df8f0a3d6ba5d9f999687399c0533c080e83fbfb55178f675e3bd20a", func := "allotment/allotmentlaw04.CountGets", spec := "countGets", inPlace := ["math/bits.Add64"], apart := false, narrowed := true }
def CountGetsUptoSaid : Prop := countGetsUptoRow.holds Try.pinned (OpenSpec.upto countGetsSpec)

/-- 'allotmentlaw04.CountSums', WHERE WHAT IT READS IS OF BULK AT MOST 1048576: true; the input reads as it did. -/
def countSumsUptoRow : OpenClaim := { program := "ytjpinfnbamigcaa", sum := "b83b5356df8f0a3d6ba5d9f999687399c0533c080e83fbfb55178f675e3bd20a", func := "allotment/allotmentlaw04.CountSums", spec := "countSums", inPlace := ["math/bits.Add64"], apart := false, narrowed := true }
def CountSumsUptoSaid : Prop := countSumsUptoRow.holds Try.pinned (OpenSpec.upto countSumsSpec)

/-- 'allotmentlaw04.CountParts', WHERE WHAT IT READS IS OF BULK AT MOST 1048576: true; the input reads as it did. -/
def countPartsUptoRow : OpenClaim := { program := "ytjpinfnbamigcaa", sum := "b83b5356df8f0a3d6ba5d9f999687399c0533c080e83fbfb55178f675e3bd20a", func := "allotment/allotmentlaw04.CountParts", spec := "countParts", inPlace := ["math/bits.Add64"], apart := false, narrowed := true }
def CountPartsUptoSaid : Prop := countPartsUptoRow.holds Try.pinned (OpenSpec.upto countPartsSpec)

end Rows
end Go.Proofs.Ytjpinfnbamigcaa
