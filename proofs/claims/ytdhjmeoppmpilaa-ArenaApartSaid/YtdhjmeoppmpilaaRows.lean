/-
  No cell of these rows narrows 'for every input' (looked for: loops, veiled, ifaces, maps, wideKeys, modest, calm, conditions, laid).
  DERIVED. THE GIVEN ROWS OF THIS SEAT. 11 by the template 'for every input the law returns true; each argument reads behind the call as it read before'; 0 by the template 'total and deterministic' (their statements: YtdhjmeoppmpilaaTotals.lean).
  GIVEN WITH THE SEED: the statements are not yours to turn. If you find one false, say at which input.
  Laid BY PROGRAM, IN A SANDBOX (cutbox-rows.mjs): the forced cells as the released guide's own fill.sh prints them over the translation e87d4838c535cd15… (all of the seat's roots in one cut). By AI agents, Wed Nov 11 2026. No macro, syntax, notation, axiom, sorry.
-/
import Derived.Test.YtdhjmeoppmpilaaChecked
import GoSem.Claim
import GoSem.ClaimJoined
import GoSem.ClaimMapViews
import Derived.JoinedTies
import Derived.KernelRfl
namespace Go.Proofs.Ytdhjmeoppmpilaa
/- THE CELL 'sum', in the pinned program and in every row, IS THE sha256 OF THE DUMP (.gsa) THAT YtdhjmeoppmpilaaProg.lean LOADS. Nothing in Lean hashes anything: it is a label: what it is worth is what the hold of that sum in a sandbox is worth. -/
noncomputable def Try.pinned : Pinned := { name := "ytdhjmeoppmpilaa", sum := "e87d4838c535cd15461dec292abad4b481d2e06e564e9ab8095aed0b938f2d07", checked := Try.checked }
namespace Rows
def none {H : Type} : Left H := { results := [], args := [] }

/-- 'allotmentlaw15.ArenaSums': WHATEVER THE INPUT: true; the input reads as it did. -/
def arenaSumsSpec : ChangeSpec := { name := "arenaSums", fn := fun _ => fun
  | [d1, d2] => { results := [.lit (.bool true)], args := [d1, d2] }
  | _ => none }
def arenaSumsRow : OpenClaim := { program := "ytdhjmeoppmpilaa", sum := "e87d4838c535cd15461dec292abad4b481d2e06e564e9ab8095aed0b938f2d07", func := "allotment/allotmentlaw15.ArenaSums", spec := "arenaSums", unfollowed := true, recurses := true, apart := false }
def ArenaSumsSaid : Prop := arenaSumsRow.holds Try.pinned (OpenSpec.ofChange arenaSumsSpec)

/-- ITS FALSE NEIGHBOUR: 'it returns false'. Refute it at one input. -/
def arenaSumsWrong : ChangeSpec := { name := "arenaSums", fn := fun _ => fun
  | [d1, d2] => { results := [.lit (.bool false)], args := [d1, d2] }
  | _ => none }
def ArenaSumsWrongFalsely : Prop := arenaSumsRow.holds Try.pinned (OpenSpec.ofChange arenaSumsWrong)

/-- 'allotmentlaw15.ArenaOwners': WHATEVER THE INPUT: true; the input reads as it did. -/
def arenaOwnersSpec : ChangeSpec := { name := "arenaOwners", fn := fun _ => fun
  | [d1, d2] => { results := [.lit (.bool true)], args := [d1, d2] }
  | _ => none }
def arenaOwnersRow : OpenClaim := { program := "ytdhjmeoppmpilaa", sum := "e87d4838c535cd15461dec292abad4b481d2e06e564e9ab8095aed0b938f2d07", func := "allotment/allotmentlaw15.ArenaOwners", spec := "arenaOwners", unfollowed := true, recurses := true, apart := false }
def ArenaOwnersSaid : Prop := arenaOwnersRow.holds Try.pinned (OpenSpec.ofChange arenaOwnersSpec)

/-- ITS FALSE NEIGHBOUR: 'it returns false'. Refute it at one input. -/
def arenaOwnersWrong : ChangeSpec := { name := "arenaOwners", fn := fun _ => fun
  | [d1, d2] => { results := [.lit (.bool false)], args := [d1, d2] }
  | _ => none }
def ArenaOwnersWrongFalsely : Prop := arenaOwnersRow.holds Try.pinned (OpenSpec.ofChange arenaOwnersWrong)

/-- 'allotmentlaw15.ArenaCuts': WHATEVER THE INPUT: true; the input reads as it did. -/
def arenaCutsSpec : ChangeSpec := { name := "arenaCuts", fn := fun _ => fun
  | [d] => { results := [.lit (.bool true)], args := [d] }
  | _ => none }
def arenaCutsRow : OpenClaim := { program := "ytdhjmeoppmpilaa", sum := "e87d4838c535cd15461dec292abad4b481d2e06e564e9ab8095aed0b938f2d07", func := "allotment/allotmentlaw15.ArenaCuts", spec := "arenaCuts", unfollowed := true, recurses := true, apart := false }
def ArenaCutsSaid : Prop := arenaCutsRow.holds Try.pinned (OpenSpec.ofChange arenaCutsSpec)

/-- ITS FALSE NEIGHBOUR: 'it returns false'. Refute it at one input. -/
def arenaCutsWrong : ChangeSpec := { name := "arenaCuts", fn := fun _ => fun
  | [d] => { results := [.lit (.bool false)], args := [d] }
  | _ => none }
def ArenaCutsWrongFalsely : Prop := arenaCutsRow.holds Try.pinned (OpenSpec.ofChange arenaCutsWrong)

/-- 'allotmentlaw14.PartRounds': WHATEVER THE INPUT: true; the input reads as it did. -/
def partRoundsSpec : ChangeSpec := { name := "partRounds", fn := fun _ => fun
  | [d1, d2] => { results := [.lit (.bool true)], args := [d1, d2] }
  | _ => none }
def partRoundsRow : OpenClaim := { program := "ytdhjmeoppmpilaa", sum := "e87d4838c535cd15461dec292abad4b481d2e06e564e9ab8095aed0b938f2d07", func := "allotment/allotmentlaw14.PartRounds", spec := "partRounds", unfollowed := true, recurses := true, apart := false }
def PartRoundsSaid : Prop := partRoundsRow.holds Try.pinned (OpenSpec.ofChange partRoundsSpec)

/-- ITS FALSE NEIGHBOUR: 'it returns false'. Refute it at one input. -/
def partRoundsWrong : ChangeSpec := { name := "partRounds", fn := fun _ => fun
  | [d1, d2] => { results := [.lit (.bool false)], args := [d1, d2] }
  | _ => none }
def PartRoundsWrongFalsely : Prop := partRoundsRow.holds Try.pinned (OpenSpec.ofChange partRoundsWrong)

/-- 'allotmentlaw15.ArenaClears': WHATEVER THE INPUT: true; the input reads as it did. -/
def arenaClearsSpec : ChangeSpec := { name := "arenaClears", fn := fun _ => fun
  | [d1, d2] => { results := [.lit (.bool true)], args := [d1, d2] }
  | _ => none }
def arenaClearsRow : OpenClaim := { program := "ytdhjmeoppmpilaa", sum := "e87d4838c535cd15461dec292abad4b481d2e06e564e9ab8095aed0b938f2d07", func := "allotment/allotmentlaw15.ArenaClears", spec := "arenaClears", unfollowed := true, recurses := true, apart := false }
def ArenaClearsSaid : Prop := arenaClearsRow.holds Try.pinned (OpenSpec.ofChange arenaClearsSpec)

/-- ITS FALSE NEIGHBOUR: 'it returns false'. Refute it at one input. -/
def arenaClearsWrong : ChangeSpec := { name := "arenaClears", fn := fun _ => fun
  | [d1, d2] => { results := [.lit (.bool false)], args := [d1, d2] }
  | _ => none }
def ArenaClearsWrongFalsely : Prop := arenaClearsRow.holds Try.pinned (OpenSpec.ofChange arenaClearsWrong)

/-- 'allotmentlaw14.PartNews': WHATEVER THE INPUT: true; the input reads as it did. -/
def partNewsSpec : ChangeSpec := { name := "partNews", fn := fun _ => fun
  | [d] => { results := [.lit (.bool true)], args := [d] }
  | _ => none }
def partNewsRow : OpenClaim := { program := "ytdhjmeoppmpilaa", sum := "e87d4838c535cd15461dec292abad4b481d2e06e564e9ab8095aed0b938f2d07", func := "allotment/allotmentlaw14.PartNews", spec := "partNews", unfollowed := true, recurses := true, apart := false }
def PartNewsSaid : Prop := partNewsRow.holds Try.pinned (OpenSpec.ofChange partNewsSpec)

/-- ITS FALSE NEIGHBOUR: 'it returns false'. Refute it at one input. -/
def partNewsWrong : ChangeSpec := { name := "partNews", fn := fun _ => fun
  | [d] => { results := [.lit (.bool false)], args := [d] }
  | _ => none }
def PartNewsWrongFalsely : Prop := partNewsRow.holds Try.pinned (OpenSpec.ofChange partNewsWrong)

/-- 'allotmentlaw14.PartKeeps': WHATEVER THE INPUT: true; the input reads as it did. -/
def partKeepsSpec : ChangeSpec := { name := "partKeeps", fn := fun _ => fun
  | [d1, d2, d3] => { results := [.lit (.bool true)], args := [d1, d2, d3] }
  | _ => none }
def partKeepsRow : OpenClaim := { program := "ytdhjmeoppmpilaa", sum := "e87d4838c535cd15461dec292abad4b481d2e06e564e9ab8095aed0b938f2d07", func := "allotment/allotmentlaw14.PartKeeps", spec := "partKeeps", unfollowed := true, recurses := true, apart := false }
def PartKeepsSaid : Prop := partKeepsRow.holds Try.pinned (OpenSpec.ofChange partKeepsSpec)

/-- ITS FALSE NEIGHBOUR: 'it returns false'. Refute it at one input. -/
def partKeepsWrong : ChangeSpec := { name := "partKeeps", fn := fun _ => fun
  | [d1, d2, d3] => { results := [.lit (.bool false)], args := [d1, d2, d3] }
  | _ => none }
def PartKeepsWrongFalsely : Prop := partKeepsRow.holds Try.pinned (OpenSpec.ofChange partKeepsWrong)

/-- 'allotmentlaw14.PartFinds': WHATEVER THE INPUT: true; the input reads as it did. -/
def partFindsSpec : ChangeSpec := { name := "partFinds", fn := fun _ => fun
  | [d1, d2, d3] => { results := [.lit (.bool true)], args := [d1, d2, d3] }
  | _ => none }
def partFindsRow : OpenClaim := { program := "ytdhjmeoppmpilaa", sum := "e87d4838c535cd15461dec292abad4b481d2e06e564e9ab8095aed0b938f2d07", func := "allotment/allotmentlaw14.PartFinds", spec := "partFinds", unfollowed := true, recurses := true, apart := false }
def PartFindsSaid : Prop := partFindsRow.holds Try.pinned (OpenSpec.ofChange partFindsSpec)

/-- ITS FALSE NEIGHBOUR: 'it returns false'. Refute it at one input. -/
def partFindsWrong : ChangeSpec := { name := "partFinds", fn := fun _ => fun
  | [d1, d2, d3] => { results := [.lit (.bool false)], args := [d1, d2, d3] }
  | _ => none }
def PartFindsWrongFalsely : Prop := partFindsRow.holds Try.pinned (OpenSpec.ofChange partFindsWrong)

/-- 'allotmentlaw15.ArenaApart': WHATEVER THE INPUT: true; the input reads as it did. -/
def arenaApartSpec : ChangeSpec := { name := "arenaApart", fn := fun _ => fun
  | [d1, d2, d3, d4, d5] => { results := [.lit (.bool true)], args := [d1, d2, d3, d4, d5] }
  | _ => none }
def arenaApartRow : OpenClaim := { program := "ytdhjmeoppmpilaa", sum := "e87d4838c535cd15461dec292abad4b481d2e06e564e9ab8095aed0b938f2d07", func := "allotment/allotmentlaw15.ArenaApart", spec := "arenaApart", unfollowed := true, recurses := true, apart := false }
def ArenaApartSaid : Prop := arenaApartRow.holds Try.pinned (OpenSpec.ofChange arenaApartSpec)

/-- ITS FALSE NEIGHBOUR: 'it returns false'. Refute it at one input. -/
def arenaApartWrong : ChangeSpec := { name := "arenaApart", fn := fun _ => fun
  | [d1, d2, d3, d4, d5] => { results := [.lit (.bool false)], args := [d1, d2, d3, d4, d5] }
  | _ => none }
def ArenaApartWrongFalsely : Prop := arenaApartRow.holds Try.pinned (OpenSpec.ofChange arenaApartWrong)

/-- 'allotmentlaw14.PartClears': WHATEVER THE INPUT: true; the input reads as it did. -/
def partClearsSpec : ChangeSpec := { name := "partClears", fn := fun _ => fun
  | [d1, d2, d3] => { results := [.lit (.bool true)], args := [d1, d2, d3] }
  | _ => none }
def partClearsRow : OpenClaim := { program := "ytdhjmeoppmpilaa", sum := "e87d4838c535cd15461dec292abad4b481d2e06e564e9ab8095aed0b938f2d07", func := "allotment/allotmentlaw14.PartClears", spec := "partClears", unfollowed := true, recurses := true, apart := false }
def PartClearsSaid : Prop := partClearsRow.holds Try.pinned (OpenSpec.ofChange partClearsSpec)

/-- ITS FALSE NEIGHBOUR: 'it returns false'. Refute it at one input. -/
def partClearsWrong : ChangeSpec := { name := "partClears", fn := fun _ => fun
  | [d1, d2, d3] => { results := [.lit (.bool false)], args := [d1, d2, d3] }
  | _ => none }
def PartClearsWrongFalsely : Prop := partClearsRow.holds Try.pinned (OpenSpec.ofChange partClearsWrong)

/-- 'allotmentlaw14.PartPlays': WHATEVER THE INPUT: true; the input reads as it did. -/
def partPlaysSpec : ChangeSpec := { name := "partPlays", fn := fun _ => fun
  | [d1, d2] => { results := [.lit (.bool true)], args := [d1, d2] }
  | _ => none }
def partPlaysRow : OpenClaim := { program := "ytdhjmeoppmpilaa", sum := "e87d4838c535cd15461dec292abad4b481d2e06e564e9ab8095aed0b938f2d07", func := "allotment/allotmentlaw14.PartPlays", spec := "partPlays", unfollowed := true, recurses := true, apart := false }
def PartPlaysSaid : Prop := partPlaysRow.holds Try.pinned (OpenSpec.ofChange partPlaysSpec)

/-- ITS FALSE NEIGHBOUR: 'it returns false'. Refute it at one input. -/
def partPlaysWrong : ChangeSpec := { name := "partPlays", fn := fun _ => fun
  | [d1, d2] => { results := [.lit (.bool false)], args := [d1, d2] }
  | _ => none }
def PartPlaysWrongFalsely : Prop := partPlaysRow.holds Try.pinned (OpenSpec.ofChange partPlaysWrong)

/- THE SECOND FORM. 'bulk': how many values and letters a reading holds, each counted each time it is reached (what is shared counts as often as it is met; a slice's spare places count too). A statement '..UptoSaid' is the law's where the arguments, and the package variables that the reading takes, are together of bulk at most 1048576: NARROWER than '..Said'. Prove '..Said' where nothing that the law and all that it calls make is longer than what came in: it says more and counts as full. Else prove '..UptoSaid'. A law counts once. -/
mutual
def uptoBulk {H : Type} : DataW H → Nat
  | .lit (.string bytes) => bytes.length + 1
  | .lit _ => 1
  | .nil => 1
  | .ptr d => uptoBulk d + 1
  | .slice elems spare => uptoBulkAll elems + uptoBulkAll spare + 1
  | .agg parts => uptoBulkAll parts + 1
  | .iface _ d => uptoBulk d + 1
  | .map entries => uptoBulkEntries entries + 1
  | .held _ => 1
def uptoBulkAll {H : Type} : List (DataW H) → Nat
  | [] => 0
  | d :: r => uptoBulk d + uptoBulkAll r
def uptoBulkEntries {H : Type} : List (Lit × DataW H) → Nat
  | [] => 0
  | x :: r => uptoBulkEntry x + uptoBulkEntries r
def uptoBulkEntry {H : Type} : Lit × DataW H → Nat
  | (.string bytes, d) => bytes.length + uptoBulk d + 1
  | (_, d) => uptoBulk d + 1
 end
def uptoSmall : (H : Type) → List (DataW H) → Bool := fun _ ds => decide (uptoBulkAll ds ≤ 1048576)
def OpenSpec.upto (s : _root_.Go.ChangeSpec) : _root_.Go.OpenSpec := { _root_.Go.OpenSpec.ofChange s with cond := some uptoSmall }

/-- 'allotmentlaw15.ArenaSums', WHERE WHAT IT READS IS OF BULK AT MOST 1048576: true; the input reads as it did. -/
def arenaSumsUptoRow : OpenClaim := { program := "ytdhjmeoppmpilaa", sum := "e87d4838c535cd15461dec292abad4b481d2e06e564e9ab8095aed0b938f2d07", func := "allotment/allotmentlaw15.ArenaSums", spec := "arenaSums", unfollowed := true, recurses := true, apart := false, narrowed := true }
def ArenaSumsUptoSaid : Prop := arenaSumsUptoRow.holds Try.pinned (OpenSpec.upto arenaSumsSpec)

/-- 'allotmentlaw15.ArenaOwners', WHERE WHAT IT READS IS OF BULK AT MOST 1048576: true; the input reads as it did. -/
def arenaOwnersUptoRow : OpenClaim := { program := "ytdhjmeoppmpilaa", sum := "e87d4838c535cd15461dec292abad4b481d2e06e564e9ab8095aed0b938f2d07", func := "allotment/allotmentlaw15.ArenaOwners", spec := "arenaOwners", unfollowed := true, recurses := true, apart := false, narrowed := true }
def ArenaOwnersUptoSaid : Prop := arenaOwnersUptoRow.holds Try.pinned (OpenSpec.upto arenaOwnersSpec)

/-- 'allotmentlaw15.ArenaCuts', WHERE WHAT IT READS IS OF BULK AT MOST 1048576: true; the input reads as it did. -/
def arenaCutsUptoRow : OpenClaim := { program := "ytdhjmeoppmpilaa", sum := "e87d4838c535cd15461dec292abad4b481d2e06e564e9ab8095aed0b938f2d07", func := "allotment/allotmentlaw15.ArenaCuts", spec := "arenaCuts", unfollowed := true, recurses := true, apart := false, narrowed := true }
def ArenaCutsUptoSaid : Prop := arenaCutsUptoRow.holds Try.pinned (OpenSpec.upto arenaCutsSpec)

/-- 'allotmentlaw14.PartRounds', WHERE WHAT IT READS IS OF BULK AT MOST 1048576: true; the input reads as it did. -/
def partRoundsUptoRow : OpenClaim := { program := "ytdhjmeoppmpilaa", sum := "e87d4838c535cd15461dec292abad4b481d2e06e564e9ab8095aed0b938f2d07", func := "allotment/allotmentlaw14.PartRounds", spec := "partRounds", unfollowed := true, recurses := true, apart := false, narrowed := true }
def PartRoundsUptoSaid : Prop := partRoundsUptoRow.holds Try.pinned (OpenSpec.upto partRoundsSpec)

/-- 'allotmentlaw15.ArenaClears', WHERE WHAT IT READS IS OF BULK AT MOST 1048576: true; the input reads as it did. -/
def arenaClearsUptoRow : OpenClaim := { program := "ytdhjmeoppmpilaa", sum := "e87d4838c535cd15461dec292abad4b481d2e06e564e9ab8095aed0b938f2d07", func := "allotment/allotmentlaw15.ArenaClears", spec := "arenaClears", unfollowed := true, recurses := true, apart := false, narrowed := true }
def ArenaClearsUptoSaid : Prop := arenaClearsUptoRow.holds Try.pinned (OpenSpec.upto arenaClearsSpec)

/-- 'allotmentlaw14.PartNews', WHERE WHAT IT READS IS OF BULK AT MOST 1048576: true; the input reads as it did. -/
def partNewsUptoRow : OpenClaim := { program := "ytdhjmeoppmpilaa", sum := "e87d4838c535cd15461dec292abad4b481d2e06e564e9ab8095aed0b938f2d07", func := "allotment/allotmentlaw14.PartNews", spec := "partNews", unfollowed := true, recurses := true, apart := false, narrowed := true }
def PartNewsUptoSaid : Prop := partNewsUptoRow.holds Try.pinned (OpenSpec.upto partNewsSpec)

/-- 'allotmentlaw14.PartKeeps', WHERE WHAT IT READS IS OF BULK AT MOST 1048576: true; the input reads as it did. -/
def partKeepsUptoRow : OpenClaim := { program := "ytdhjmeoppmpilaa", sum := "e87d4838c535cd15461dec292abad4b481d2e06e564e9ab8095aed0b938f2d07", func := "allotment/allotmentlaw14.PartKeeps", spec := "partKeeps", unfollowed := true, recurses := true, apart := false, narrowed := true }
def PartKeepsUptoSaid : Prop := partKeepsUptoRow.holds Try.pinned (OpenSpec.upto partKeepsSpec)

/-- 'allotmentlaw14.PartFinds', WHERE WHAT IT READS IS OF BULK AT MOST 1048576: true; the input reads as it did. -/
def partFindsUptoRow : OpenClaim := { program := "ytdhjmeoppmpilaa", sum := "e87d4838c535cd15461dec292abad4b481d2e06e564e9ab8095aed0b938f2d07", func := "allotment/allotmentlaw14.PartFinds", spec := "partFinds", unfollowed := true, recurses := true, apart := false, narrowed := true }
def PartFindsUptoSaid : Prop := partFindsUptoRow.holds Try.pinned (OpenSpec.upto partFindsSpec)

/-- 'allotmentlaw15.ArenaApart', WHERE WHAT IT READS IS OF BULK AT MOST 1048576: true; the input reads as it did. -/
def arenaApartUptoRow : OpenClaim := { program := "ytdhjmeoppmpilaa", sum := "e87d4838c535cd15461dec292abad4b481d2e06e564e9ab8095aed0b938f2d07", func := "allotment/allotmentlaw15.ArenaApart", spec := "arenaApart", unfollowed := true, recurses := true, apart := false, narrowed := true }
def ArenaApartUptoSaid : Prop := arenaApartUptoRow.holds Try.pinned (OpenSpec.upto arenaApartSpec)

/-- 'allotmentlaw14.PartClears', WHERE WHAT IT READS IS OF BULK AT MOST 1048576: true; the input reads as it did. -/
def partClearsUptoRow : OpenClaim := { program := "ytdhjmeoppmpilaa", sum := "e87d4838c535cd15461dec292abad4b481d2e06e564e9ab8095aed0b938f2d07", func := "allotment/allotmentlaw14.PartClears", spec := "partClears", unfollowed := true, recurses := true, apart := false, narrowed := true }
def PartClearsUptoSaid : Prop := partClearsUptoRow.holds Try.pinned (OpenSpec.upto partClearsSpec)

/-- 'allotmentlaw14.PartPlays', WHERE WHAT IT READS IS OF BULK AT MOST 1048576: true; the input reads as it did. -/
def partPlaysUptoRow : OpenClaim := { program := "ytdhjmeoppmpilaa", sum := "e87d4838c535cd15461dec292abad4b481d2e06e564e9ab8095aed0b938f2d07", func := "allotment/allotmentlaw14.PartPlays", spec := "partPlays", unfollowed := true, recurses := true, apart := false, narrowed := true }
def PartPlaysUptoSaid : Prop := partPlaysUptoRow.holds Try.pinned (OpenSpec.upto partPlaysSpec)

end Rows
end Go.Proofs.Ytdhjmeoppmpilaa
