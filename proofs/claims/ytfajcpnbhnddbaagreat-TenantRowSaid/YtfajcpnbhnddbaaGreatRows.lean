/-
  No cell of these rows narrows 'for every input' (looked for: loops, veiled, ifaces, maps, wideKeys, modest, calm, conditions, laid).
  DERIVED. THE GIVEN ROWS OF THIS SEAT. 3 by the template 'for every input the law returns true; each argument reads behind the call as it read before'; 0 by the template 'total and deterministic' (their statements: YtfajcpnbhnddbaaGreatTotals.lean).
  GIVEN WITH THE SEED: the statements are not yours to turn. If you find one false, say at which input.
  Laid BY PROGRAM, IN A SANDBOX (cutbox-rows.mjs): the forced cells as the released guide's own fill.sh prints them over the translation 188730c358f2e024… (all of the seat's roots in one cut). By AI agents, Wed Nov 11 2026. No macro, syntax, notation, axiom, sorry.
-/
import Derived.Test.YtfajcpnbhnddbaaGreatChecked
import GoSem.Claim
import GoSem.ClaimJoined
import GoSem.ClaimMapViews
import Derived.JoinedTies
import Derived.KernelRfl
namespace Go.Proofs.YtfajcpnbhnddbaaGreat
/- THE CELL 'sum', in the pinned program and in every row, IS THE sha256 OF THE DUMP (.gsa) THAT YtfajcpnbhnddbaaGreatProg.lean LOADS. Nothing in Lean hashes anything: it is a label: what it is worth is what the hold of that sum in a sandbox is worth. -/
noncomputable def Tryz.pinned : Pinned := { name := "ytfajcpnbhnddbaagreat", sum := "188730c358f2e024b726998cfb450c7dfac0be0a437cd562e49e511526674dff", checked := Tryz.checked }
namespace Rows
def none {H : Type} : Left H := { results := [], args := [] }

/-- 'allotmentlaw21.TenantRow': WHATEVER THE INPUT: true; the input reads as it did. -/
def tenantRowSpec : ChangeSpec := { name := "tenantRow", fn := fun _ => fun
  | [d1, d2] => { results := [.lit (.bool true)], args := [d1, d2] }
  | _ => none }
def tenantRowRow : OpenClaim := { program := "ytfajcpnbhnddbaagreat", sum := "188730c358f2e024b726998cfb450c7dfac0be0a437cd562e49e511526674dff", func := "allotment/allotmentlaw21.TenantRow", spec := "tenantRow", inPlace := ["math/bits.Add64"], unfollowed := true, recurses := true, apart := false }
def TenantRowSaid : Prop := tenantRowRow.holds Tryz.pinned (OpenSpec.ofChange tenantRowSpec)

/-- ITS FALSE NEIGHBOUR: 'it returns false'. Refute it at one input. -/
def tenantRowWrong : ChangeSpec := { name := "tenantRow", fn := fun _ => fun
  | [d1, d2] => { results := [.lit (.bool false)], args := [d1, d2] }
  | _ => none }
def TenantRowWrongFalsely : Prop := tenantRowRow.holds Tryz.pinned (OpenSpec.ofChange tenantRowWrong)

/-- 'allotmentlaw21.TenantPlays': WHATEVER THE INPUT: true; the input reads as it did. -/
def tenantPlaysSpec : ChangeSpec := { name := "tenantPlays", fn := fun _ => fun
  | [d1, d2, d3] => { results := [.lit (.bool true)], args := [d1, d2, d3] }
  | _ => none }
def tenantPlaysRow : OpenClaim := { program := "ytfajcpnbhnddbaagreat", sum := "188730c358f2e024b726998cfb450c7dfac0be0a437cd562e49e511526674dff", func := "allotment/allotmentlaw21.TenantPlays", spec := "tenantPlays", inPlace := ["math/bits.Add64"], unfollowed := true, recurses := true, apart := false }
def TenantPlaysSaid : Prop := tenantPlaysRow.holds Tryz.pinned (OpenSpec.ofChange tenantPlaysSpec)

/-- ITS FALSE NEIGHBOUR: 'it returns false'. Refute it at one input. -/
def tenantPlaysWrong : ChangeSpec := { name := "tenantPlays", fn := fun _ => fun
  | [d1, d2, d3] => { results := [.lit (.bool false)], args := [d1, d2, d3] }
  | _ => none }
def TenantPlaysWrongFalsely : Prop := tenantPlaysRow.holds Tryz.pinned (OpenSpec.ofChange tenantPlaysWrong)

/-- 'allotmentlaw21.TenantCrash': WHATEVER THE INPUT: true; the input reads as it did. -/
def tenantCrashSpec : ChangeSpec := { name := "tenantCrash", fn := fun _ => fun
  | [d1, d2] => { results := [.lit (.bool true)], args := [d1, d2] }
  | _ => none }
def tenantCrashRow : OpenClaim := { program := "ytfajcpnbhnddbaagreat", sum := "188730c358f2e024b726998cfb450c7dfac0be0a437cd562e49e511526674dff", func := "allotment/allotmentlaw21.TenantCrash", spec := "tenantCrash", inPlace := ["math/bits.Add64"], unfollowed := true, recurses := true, apart := false }
def TenantCrashSaid : Prop := tenantCrashRow.holds Tryz.pinned (OpenSpec.ofChange tenantCrashSpec)

/-- ITS FALSE NEIGHBOUR: 'it returns false'. Refute it at one input. -/
def tenantCrashWrong : ChangeSpec := { name := "tenantCrash", fn := fun _ => fun
  | [d1, d2] => { results := [.lit (.bool false)], args := [d1, d2] }
  | _ => none }
def TenantCrashWrongFalsely : Prop := tenantCrashRow.holds Tryz.pinned (OpenSpec.ofChange tenantCrashWrong)

/- THE SECOND FORM. 'bulk': how many values and letters a reading holds, each counted each time it is reached (what is shared counts as often as it is met; a slice's spare places count too). A statement '..UptoSaid' is the law's where the arguments, and the package variables that the reading takes, are together of bulk at most 1048576: NARROWER than '..Said'. Prove '..Said' where nothing that the law and all that it calls make is longer than what came in: it says more and counts as full. Else prove '..UptoSaid'. A law counts once. -/
mutual
def uptoBulk {H : Type} : DataW H → Nat
  | .lit (.string bytes) => bytes.length + 1
  | .lit _ => 1
  | .nil => 1
  | .ptr d => uptoBulk d + 1
  | .slice elems spare => uptoBulkAll elems + uptoBulkAll spare + 1
  | .agg parts => uptoBulkAll parts + 1
  | .iface _ d => uptoBulk d + 1
  | .map entries => uptoBulkEntries entries + 1
  | .held _ => 1
def uptoBulkAll {H : Type} : List (DataW H) → Nat
  | [] => 0
  | d :: r => uptoBulk d + uptoBulkAll r
def uptoBulkEntries {H : Type} : List (Lit × DataW H) → Nat
  | [] => 0
  | x :: r => uptoBulkEntry x + uptoBulkEntries r
def uptoBulkEntry {H : Type} : Lit × DataW H → Nat
  | (.string bytes, d) => bytes.length + uptoBulk d + 1
  | (_, d) => uptoBulk d + 1
 end
def uptoSmall : (H : Type) → List (DataW H) → Bool := fun _ ds => decide (uptoBulkAll ds ≤ 1048576)
def OpenSpec.upto (s : _root_.Go.ChangeSpec) : _root_.Go.OpenSpec := { _root_.Go.OpenSpec.ofChange s with cond := some uptoSmall }

/-- 'allotmentlaw21.TenantRow', WHERE WHAT IT READS IS OF BULK AT MOST 1048576: true; the input reads as it did. -/
def tenantRowUptoRow : OpenClaim := { program := "ytfajcpnbhnddbaagreat", sum := "188730c358f2e024b726998cfb450c7dfac0be0a437cd562e49e511526674dff", func := "allotment/allotmentlaw21.TenantRow", spec := "tenantRow", inPlace := ["math/bits.Add64"], unfollowed := true, recurses := true, apart := false, narrowed := true }
def TenantRowUptoSaid : Prop := tenantRowUptoRow.holds Tryz.pinned (OpenSpec.upto tenantRowSpec)

/-- 'allotmentlaw21.TenantPlays', WHERE WHAT IT READS IS OF BULK AT MOST 1048576: true; the input reads as it did. -/
def tenantPlaysUptoRow : OpenClaim := { program := "ytfajcpnbhnddbaagreat", sum := "188730c358f2e024b726998cfb450c7dfac0be0a437cd562e49e511526674dff", func := "allotment/allotmentlaw21.TenantPlays", spec := "tenantPlays", inPlace := ["math/bits.Add64"], unfollowed := true, recurses := true, apart := false, narrowed := true }
def TenantPlaysUptoSaid : Prop := tenantPlaysUptoRow.holds Tryz.pinned (OpenSpec.upto tenantPlaysSpec)

/-- 'allotmentlaw21.TenantCrash', WHERE WHAT IT READS IS OF BULK AT MOST 1048576: true; the input reads as it did. -/
def tenantCrashUptoRow : OpenClaim := { program := "ytfajcpnbhnddbaagreat", sum := "188730c358f2e024b726998cfb450c7dfac0be0a437cd562e49e511526674dff", func := "allotment/allotmentlaw21.TenantCrash", spec := "tenantCrash", inPlace := ["math/bits.Add64"], unfollowed := true, recurses := true, apart := false, narrowed := true }
def TenantCrashUptoSaid : Prop := tenantCrashUptoRow.holds Tryz.pinned (OpenSpec.upto tenantCrashSpec)

end Rows
end Go.Proofs.YtfajcpnbhnddbaaGreat
