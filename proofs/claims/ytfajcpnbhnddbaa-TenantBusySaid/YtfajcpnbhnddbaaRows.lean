/-
  No cell of these rows narrows 'for every input' (looked for: loops, veiled, ifaces, maps, wideKeys, modest, calm, conditions, laid).
  DERIVED. THE GIVEN ROWS OF THIS SEAT. 3 by the template 'for every input the law returns true; each argument reads behind the call as it read before'; 0 by the template 'total and deterministic' (their statements: YtfajcpnbhnddbaaTotals.lean).
  GIVEN WITH THE SEED: the statements are not yours to turn. If you find one false, say at which input.
  Laid BY PROGRAM, IN A SANDBOX (cutbox-rows.mjs): the forced cells as the released guide's own fill.sh prints them over the translation 278554a8ba0ff753… (all of the seat's roots in one cut). By AI agents, Wed Nov 11 2026. No macro, syntax, notation, axiom, sorry.
-/
import Derived.Test.YtfajcpnbhnddbaaChecked
import GoSem.Claim
import GoSem.ClaimJoined
import GoSem.ClaimMapViews
import Derived.JoinedTies
import Derived.KernelRfl
namespace Go.Proofs.Ytfajcpnbhnddbaa
/- THE CELL 'sum', in the pinned program and in every row, IS THE sha256 OF THE DUMP (.gsa) THAT YtfajcpnbhnddbaaProg.lean LOADS. Nothing in Lean hashes anything: it is a label: what it is worth is what the hold of that sum in a sandbox is worth. -/
noncomputable def Try.pinned : Pinned := { name := "ytfajcpnbhnddbaa", sum := "278554a8ba0ff753ae70d72d8bccb279735fdc54e758dc8eef57328b0f97b8e0", checked := Try.checked }
namespace Rows
def none {H : Type} : Left H := { results := [], args := [] }

/-- 'allotmentlaw21.TenantNews': WHATEVER THE INPUT: true; the input reads as it did. -/
def tenantNewsSpec : ChangeSpec := { name := "tenantNews", fn := fun _ => fun
  | [d1, d2] => { results := [.lit (.bool true)], args := [d1, d2] }
  | _ => none }
def tenantNewsRow : OpenClaim := { program := "ytfajcpnbhnddbaa", sum := "278554a8ba0ff753ae70d72d8bccb279735fdc54e758dc8eef57328b0f97b8e0", func := "allotment/allotmentlaw21.TenantNews", spec := "tenantNews", inPlace := ["math/bits.Add64"], unfollowed := true, recurses := true, apart := false }
def TenantNewsSaid : Prop := tenantNewsRow.holds Try.pinned (OpenSpec.ofChange tenantNewsSpec)

/-- ITS FALSE NEIGHBOUR: 'it returns false'. Refute it at one input. -/
def tenantNewsWrong : ChangeSpec := { name := "tenantNews", fn := fun _ => fun
  | [d1, d2] => { results := [.lit (.bool false)], args := [d1, d2] }
  | _ => none }
def TenantNewsWrongFalsely : Prop := tenantNewsRow.holds Try.pinned (OpenSpec.ofChange tenantNewsWrong)

/-- 'allotmentlaw21.TenantCounts': WHATEVER THE INPUT: true; the input reads as it did. -/
def tenantCountsSpec : ChangeSpec := { name := "tenantCounts", fn := fun _ => fun
  | [d] => { results := [.lit (.bool true)], args := [d] }
  | _ => none }
def tenantCountsRow : OpenClaim := { program := "ytfajcpnbhnddbaa", sum := "278554a8ba0ff753ae70d72d8bccb279735fdc54e758dc8eef57328b0f97b8e0", func := "allotment/allotmentlaw21.TenantCounts", spec := "tenantCounts", inPlace := ["math/bits.Add64"], unfollowed := true, recurses := true, apart := false }
def TenantCountsSaid : Prop := tenantCountsRow.holds Try.pinned (OpenSpec.ofChange tenantCountsSpec)

/-- ITS FALSE NEIGHBOUR: 'it returns false'. Refute it at one input. -/
def tenantCountsWrong : ChangeSpec := { name := "tenantCounts", fn := fun _ => fun
  | [d] => { results := [.lit (.bool false)], args := [d] }
  | _ => none }
def TenantCountsWrongFalsely : Prop := tenantCountsRow.holds Try.pinned (OpenSpec.ofChange tenantCountsWrong)

/-- 'allotmentlaw21.TenantBusy': WHATEVER THE INPUT: true; the input reads as it did. -/
def tenantBusySpec : ChangeSpec := { name := "tenantBusy", fn := fun _ => fun
  | [d1, d2] => { results := [.lit (.bool true)], args := [d1, d2] }
  | _ => none }
def tenantBusyRow : OpenClaim := { program := "ytfajcpnbhnddbaa", sum := "278554a8ba0ff753ae70d72d8bccb279735fdc54e758dc8eef57328b0f97b8e0", func := "allotment/allotmentlaw21.TenantBusy", spec := "tenantBusy", inPlace := ["math/bits.Add64"], unfollowed := true, recurses := true, apart := false }
def TenantBusySaid : Prop := tenantBusyRow.holds Try.pinned (OpenSpec.ofChange tenantBusySpec)

/-- ITS FALSE NEIGHBOUR: 'it returns false'. Refute it at one input. -/
def tenantBusyWrong : ChangeSpec := { name := "tenantBusy", fn := fun _ => fun
  | [d1, d2] => { results := [.lit (.bool false)], args := [d1, d2] }
  | _ => none }
def TenantBusyWrongFalsely : Prop := tenantBusyRow.holds Try.pinned (OpenSpec.ofChange tenantBusyWrong)

/- THE SECOND FORM. 'bulk': how many values and letters a reading holds, each counted each time it is reached (what is shared counts as often as it is met; a slice's spare places count too). A statement '..UptoSaid' is the law's where the arguments, and the package variables that the reading takes, are together of bulk at most 1048576: NARROWER than '..Said'. Prove '..Said' where nothing that the law and all that it calls make is longer than what came in: it says more and counts as full. Else prove '..UptoSaid'. A law counts once. -/
mutual
def uptoBulk {H : Type} : DataW H → Nat
  | .lit (.string bytes) => bytes.length + 1
  | .lit _ => 1
  | .nil => 1
  | .ptr d => uptoBulk d + 1
  | .slice elems spare => uptoBulkAll elems + uptoBulkAll spare + 1
  | .agg parts => uptoBulkAll parts + 1
  | .iface _ d => uptoBulk d + 1
  | .map entries => uptoBulkEntries entries + 1
  | .held _ => 1
def uptoBulkAll {H : Type} : List (DataW H) → Nat
  | [] => 0
  | d :: r => uptoBulk d + uptoBulkAll r
def uptoBulkEntries {H : Type} : List (Lit × DataW H) → Nat
  | [] => 0
  | x :: r => uptoBulkEntry x + uptoBulkEntries r
def uptoBulkEntry {H : Type} : Lit × DataW H → Nat
  | (.string bytes, d) => bytes.length + uptoBulk d + 1
  | (_, d) => uptoBulk d + 1
 end
def uptoSmall : (H : Type) → List (DataW H) → Bool := fun _ ds => decide (uptoBulkAll ds ≤ 1048576)
def OpenSpec.upto (s : _root_.Go.ChangeSpec) : _root_.Go.OpenSpec := { _root_.Go.OpenSpec.ofChange s with cond := some uptoSmall }

/-- 'allotmentlaw21.TenantNews', WHERE WHAT IT READS IS OF BULK AT MOST 1048576: true; the input reads as it did. -/
def tenantNewsUptoRow : OpenClaim := { program := "ytfajcpnbhnddbaa", sum := "278554a8ba0ff753ae70d72d8bccb279735fdc54e758dc8eef57328b0f97b8e0", func := "allotment/allotmentlaw21.TenantNews", spec := "tenantNews", inPlace := ["math/bits.Add64"], unfollowed := true, recurses := true, apart := false, narrowed := true }
def TenantNewsUptoSaid : Prop := tenantNewsUptoRow.holds Try.pinned (OpenSpec.upto tenantNewsSpec)

/-- 'allotmentlaw21.TenantCounts', WHERE WHAT IT READS IS OF BULK AT MOST 1048576: true; the input reads as it did. -/
def tenantCountsUptoRow : OpenClaim := { program := "ytfajcpnbhnddbaa", sum := "278554a8ba0ff753ae70d72d8bccb279735fdc54e758dc8eef57328b0f97b8e0", func := "allotment/allotmentlaw21.TenantCounts", spec := "tenantCounts", inPlace := ["math/bits.Add64"], unfollowed := true, recurses := true, apart := false, narrowed := true }
def TenantCountsUptoSaid : Prop := tenantCountsUptoRow.holds Try.pinned (OpenSpec.upto tenantCountsSpec)

/-- 'allotmentlaw21.TenantBusy', WHERE WHAT IT READS IS OF BULK AT MOST 1048576: true; the input reads as it did. -/
def tenantBusyUptoRow : OpenClaim := { program := "ytfajcpnbhnddbaa", sum := "278554a8ba0ff753ae70d72d8bccb279735fdc54e758dc8eef57328b0f97b8e0", func := "allotment/allotmentlaw21.TenantBusy", spec := "tenantBusy", inPlace := ["math/bits.Add64"], unfollowed := true, recurses := true, apart := false, narrowed := true }
def TenantBusyUptoSaid : Prop := tenantBusyUptoRow.holds Try.pinned (OpenSpec.upto tenantBusySpec)

end Rows
end Go.Proofs.Ytfajcpnbhnddbaa
