/-
  No cell of these rows narrows 'for every input' (looked for: loops, veiled, ifaces, maps, wideKeys, modest, calm, conditions, laid).
  DERIVED. THE GIVEN ROWS OF THIS SEAT. 6 by the template 'for every input the law returns true; each argument reads behind the call as it read before'; 0 by the template 'total and deterministic' (their statements: YtpimbaphenignaaTotals.lean).
  GIVEN WITH THE SEED: the statements are not yours to turn. If you find one false, say at which input.
  Laid BY PROGRAM, IN A SANDBOX (cutbox-rows.mjs): the forced cells as the released guide's own fill.sh prints them over the translation 335d2b8c6cf35053… (all of the seat's roots in one cut). By AI agents, Wed Nov 11 2026. No macro, syntax, notation, axiom, sorry.
-/
import Derived.Test.YtpimbaphenignaaChecked
import GoSem.Claim
import GoSem.ClaimJoined
import GoSem.ClaimMapViews
import Derived.JoinedTies
import Derived.KernelRfl
namespace Go.Proofs.Ytpimbaphenignaa
/- THE CELL 'sum', in the pinned program and in every row, IS THE sha256 OF THE DUMP (.gsa) THAT YtpimbaphenignaaProg.lean LOADS. Nothing in Lean hashes anything: it is a label: what it is worth is what the hold of that sum in a sandbox is worth. -/
noncomputable def Try.pinned : Pinned := { name := "ytpimbaphenignaa", sum := "335d2b8c6cf35053c8d5d2af2a815731e6615992a346a60bf63af25915424825", checked := Try.checked }
namespace Rows
def none {H : Type} : Left H := { results := [], args := [] }

/-- 'allotmentlaw09.DeviceLasts': WHATEVER THE INPUT: true; the input reads as it did. -/
def deviceLastsSpec : ChangeSpec := { name := "deviceLasts", fn := fun _ => fun
  | [d1, d2, d3] => { results := [.lit (.bool true)], args := [d1, d2, d3] }
  | _ => none }
def deviceLastsRow : OpenClaim := { program := "ytpimbaphenignaa", sum := "335d2b8c6cf35053c8d5d2af2a815731e6615992a346a60bf63af25915424825", func := "allotment/allotmentlaw09.DeviceLasts", spec := "deviceLasts", unfollowed := true, recurses := true, apart := false }
def DeviceLastsSaid : Prop := deviceLastsRow.holds Try.pinned (OpenSpec.ofChange deviceLastsSpec)

/-- ITS FALSE NEIGHBOUR: 'it returns false'. Refute it at one input. -/
def deviceLastsWrong : ChangeSpec := { name := "deviceLasts", fn := fun _ => fun
  | [d1, d2, d3] => { results := [.lit (.bool false)], args := [d1, d2, d3] }
  | _ => none }
def DeviceLastsWrongFalsely : Prop := deviceLastsRow.holds Try.pinned (OpenSpec.ofChange deviceLastsWrong)

/-- 'allotmentlaw09.DeviceNews': WHATEVER THE INPUT: true; the input reads as it did. -/
def deviceNewsSpec : ChangeSpec := { name := "deviceNews", fn := fun _ => fun
  | [d] => { results := [.lit (.bool true)], args := [d] }
  | _ => none }
def deviceNewsRow : OpenClaim := { program := "ytpimbaphenignaa", sum := "335d2b8c6cf35053c8d5d2af2a815731e6615992a346a60bf63af25915424825", func := "allotment/allotmentlaw09.DeviceNews", spec := "deviceNews", unfollowed := true, recurses := true, apart := false }
def DeviceNewsSaid : Prop := deviceNewsRow.holds Try.pinned (OpenSpec.ofChange deviceNewsSpec)

/-- ITS FALSE NEIGHBOUR: 'it returns false'. Refute it at one input. -/
def deviceNewsWrong : ChangeSpec := { name := "deviceNews", fn := fun _ => fun
  | [d] => { results := [.lit (.bool false)], args := [d] }
  | _ => none }
def DeviceNewsWrongFalsely : Prop := deviceNewsRow.holds Try.pinned (OpenSpec.ofChange deviceNewsWrong)

/-- 'allotmentlaw09.DeviceOwns': WHATEVER THE INPUT: true; the input reads as it did. -/
def deviceOwnsSpec : ChangeSpec := { name := "deviceOwns", fn := fun _ => fun
  | [d1, d2] => { results := [.lit (.bool true)], args := [d1, d2] }
  | _ => none }
def deviceOwnsRow : OpenClaim := { program := "ytpimbaphenignaa", sum := "335d2b8c6cf35053c8d5d2af2a815731e6615992a346a60bf63af25915424825", func := "allotment/allotmentlaw09.DeviceOwns", spec := "deviceOwns", unfollowed := true, recurses := true, apart := false }
def DeviceOwnsSaid : Prop := deviceOwnsRow.holds Try.pinned (OpenSpec.ofChange deviceOwnsSpec)

/-- ITS FALSE NEIGHBOUR: 'it returns false'. Refute it at one input. -/
def deviceOwnsWrong : ChangeSpec := { name := "deviceOwns", fn := fun _ => fun
  | [d1, d2] => { results := [.lit (.bool false)], args := [d1, d2] }
  | _ => none }
def DeviceOwnsWrongFalsely : Prop := deviceOwnsRow.holds Try.pinned (OpenSpec.ofChange deviceOwnsWrong)

/-- 'allotmentlaw09.DeviceTurns': WHATEVER THE INPUT: true; the input reads as it did. -/
def deviceTurnsSpec : ChangeSpec := { name := "deviceTurns", fn := fun _ => fun
  | [d1, d2, d3, d4] => { results := [.lit (.bool true)], args := [d1, d2, d3, d4] }
  | _ => none }
def deviceTurnsRow : OpenClaim := { program := "ytpimbaphenignaa", sum := "335d2b8c6cf35053c8d5d2af2a815731e6615992a346a60bf63af25915424825", func := "allotment/allotmentlaw09.DeviceTurns", spec := "deviceTurns", unfollowed := true, recurses := true, apart := false }
def DeviceTurnsSaid : Prop := deviceTurnsRow.holds Try.pinned (OpenSpec.ofChange deviceTurnsSpec)

/-- ITS FALSE NEIGHBOUR: 'it returns false'. Refute it at one input. -/
def deviceTurnsWrong : ChangeSpec := { name := "deviceTurns", fn := fun _ => fun
  | [d1, d2, d3, d4] => { results := [.lit (.bool false)], args := [d1, d2, d3, d4] }
  | _ => none }
def DeviceTurnsWrongFalsely : Prop := deviceTurnsRow.holds Try.pinned (OpenSpec.ofChange deviceTurnsWrong)

/-- 'allotmentlaw09.DeviceApart': WHATEVER THE INPUT: true; the input reads as it did. -/
def deviceApartSpec : ChangeSpec := { name := "deviceApart", fn := fun _ => fun
  | [d1, d2, d3, d4, d5] => { results := [.lit (.bool true)], args := [d1, d2, d3, d4, d5] }
  | _ => none }
def deviceApartRow : OpenClaim := { program := "ytpimbaphenignaa", sum := "335d2b8c6cf35053c8d5d2af2a815731e6615992a346a60bf63af25915424825", func := "allotment/allotmentlaw09.DeviceApart", spec := "deviceApart", unfollowed := true, recurses := true, apart := false }
def DeviceApartSaid : Prop := deviceApartRow.holds Try.pinned (OpenSpec.ofChange deviceApartSpec)

/-- ITS FALSE NEIGHBOUR: 'it returns false'. Refute it at one input. -/
def deviceApartWrong : ChangeSpec := { name := "deviceApart", fn := fun _ => fun
  | [d1, d2, d3, d4, d5] => { results := [.lit (.bool false)], args := [d1, d2, d3, d4, d5] }
  | _ => none }
def DeviceApartWrongFalsely : Prop := deviceApartRow.holds Try.pinned (OpenSpec.ofChange deviceApartWrong)

/-- 'allotmentlaw09.DevicePlays': WHATEVER THE INPUT: true; the input reads as it did. -/
def devicePlaysSpec : ChangeSpec := { name := "devicePlays", fn := fun _ => fun
  | [d1, d2] => { results := [.lit (.bool true)], args := [d1, d2] }
  | _ => none }
def devicePlaysRow : OpenClaim := { program := "ytpimbaphenignaa", sum := "335d2b8c6cf35053c8d5d2af2a815731e6615992a346a60bf63af25915424825", func := "allotment/allotmentlaw09.DevicePlays", spec := "devicePlays", unfollowed := true, recurses := true, apart := false }
def DevicePlaysSaid : Prop := devicePlaysRow.holds Try.pinned (OpenSpec.ofChange devicePlaysSpec)

/-- ITS FALSE NEIGHBOUR: 'it returns false'. Refute it at one input. -/
def devicePlaysWrong : ChangeSpec := { name := "devicePlays", fn := fun _ => fun
  | [d1, d2] => { results := [.lit (.bool false)], args := [d1, d2] }
  | _ => none }
def DevicePlaysWrongFalsely : Prop := devicePlaysRow.holds Try.pinned (OpenSpec.ofChange devicePlaysWrong)

/- THE SECOND FORM. 'bulk': how many values and letters a reading holds, each counted each time it is reached (what is shared counts as often as it is met; a slice's spare places count too). A statement '..UptoSaid' is the law's where the arguments, and the package variables that the reading takes, are together of bulk at most 1048576: NARROWER than '..Said'. Prove '..Said' where nothing that the law and all that it calls make is longer than what came in: it says more and counts as full. Else prove '..UptoSaid'. A law counts once. -/
mutual
def uptoBulk {H : Type} : DataW H → Nat
  | .lit (.string bytes) => bytes.length + 1
  | .lit _ => 1
  | .nil => 1
  | .ptr d => uptoBulk d + 1
  | .slice elems spare => uptoBulkAll elems + uptoBulkAll spare + 1
  | .agg parts => uptoBulkAll parts + 1
  | .iface _ d => uptoBulk d + 1
  | .map entries => uptoBulkEntries entries + 1
  | .held _ => 1
def uptoBulkAll {H : Type} : List (DataW H) → Nat
  | [] => 0
  | d :: r => uptoBulk d + uptoBulkAll r
def uptoBulkEntries {H : Type} : List (Lit × DataW H) → Nat
  | [] => 0
  | x :: r => uptoBulkEntry x + uptoBulkEntries r
def uptoBulkEntry {H : Type} : Lit × DataW H → Nat
  | (.string bytes, d) => bytes.length + uptoBulk d + 1
  | (_, d) => uptoBulk d + 1
 end
def uptoSmall : (H : Type) → List (DataW H) → Bool := fun _ ds => decide (uptoBulkAll ds ≤ 1048576)
def OpenSpec.upto (s : _root_.Go.ChangeSpec) : _root_.Go.OpenSpec := { _root_.Go.OpenSpec.ofChange s with cond := some uptoSmall }

/-- 'allotmentlaw09.DeviceLasts', WHERE WHAT IT READS IS OF BULK AT MOST 1048576: true; the input reads as it did. -/
def deviceLastsUptoRow : OpenClaim := { program := "ytpimbaphenignaa", sum := "335d2b8c6cf35053c8d5d2af2a815731e6615992a346a60bf63af25915424825", func := "allotment/allotmentlaw09.DeviceLasts", spec := "deviceLasts", unfollowed := true, recurses := true, apart := false, narrowed := true }
def DeviceLastsUptoSaid : Prop := deviceLastsUptoRow.holds Try.pinned (OpenSpec.upto deviceLastsSpec)

/-- 'allotmentlaw09.DeviceNews', WHERE WHAT IT READS IS OF BULK AT MOST 1048576: true; the input reads as it did. -/
def deviceNewsUptoRow : OpenClaim := { program := "ytpimbaphenignaa", sum := "335d2b8c6cf35053c8d5d2af2a815731e6615992a346a60bf63af25915424825", func := "allotment/allotmentlaw09.DeviceNews", spec := "deviceNews", unfollowed := true, recurses := true, apart := false, narrowed := true }
def DeviceNewsUptoSaid : Prop := deviceNewsUptoRow.holds Try.pinned (OpenSpec.upto deviceNewsSpec)

/-- 'allotmentlaw09.DeviceOwns', WHERE WHAT IT READS IS OF BULK AT MOST 1048576: true; the input reads as it did. -/
def deviceOwnsUptoRow : OpenClaim := { program := "ytpimbaphenignaa", sum := "335d2b8c6cf35053c8d5d2af2a815731e6615992a346a60bf63af25915424825", func := "allotment/allotmentlaw09.DeviceOwns", spec := "deviceOwns", unfollowed := true, recurses := true, apart := false, narrowed := true }
def DeviceOwnsUptoSaid : Prop := deviceOwnsUptoRow.holds Try.pinned (OpenSpec.upto deviceOwnsSpec)

/-- 'allotmentlaw09.DeviceTurns', WHERE WHAT IT READS IS OF BULK AT MOST 1048576: true; the input reads as it did. -/
def deviceTurnsUptoRow : OpenClaim := { program := "ytpimbaphenignaa", sum := "335d2b8c6cf35053c8d5d2af2a815731e6615992a346a60bf63af25915424825", func := "allotment/allotmentlaw09.DeviceTurns", spec := "deviceTurns", unfollowed := true, recurses := true, apart := false, narrowed := true }
def DeviceTurnsUptoSaid : Prop := deviceTurnsUptoRow.holds Try.pinned (OpenSpec.upto deviceTurnsSpec)

/-- 'allotmentlaw09.DeviceApart', WHERE WHAT IT READS IS OF BULK AT MOST 1048576: true; the input reads as it did. -/
def deviceApartUptoRow : OpenClaim := { program := "ytpimbaphenignaa", sum := "335d2b8c6cf35053c8d5d2af2a815731e6615992a346a60bf63af25915424825", func := "allotment/allotmentlaw09.DeviceApart", spec := "deviceApart", unfollowed := true, recurses := true, apart := false, narrowed := true }
def DeviceApartUptoSaid : Prop := deviceApartUptoRow.holds Try.pinned (OpenSpec.upto deviceApartSpec)

/-- 'allotmentlaw09.DevicePlays', WHERE WHAT IT READS IS OF BULK AT MOST 1048576: true; the input reads as it did. -/
def devicePlaysUptoRow : OpenClaim := { program := "ytpimbaphenignaa", sum := "335d2b8c6cf35053c8d5d2af2a815731e6615992a346a60bf63af25915424825", func := "allotment/allotmentlaw09.DevicePlays", spec := "devicePlays", unfollowed := true, recurses := true, apart := false, narrowed := true }
def DevicePlaysUptoSaid : Prop := devicePlaysUptoRow.holds Try.pinned (OpenSpec.upto devicePlaysSpec)

end Rows
end Go.Proofs.Ytpimbaphenignaa
