/-
  No cell of these rows narrows 'for every input' (looked for: loops, veiled, ifaces, maps, wideKeys, modest, calm, conditions, laid).
  DERIVED. THE GIVEN ROWS OF THIS SEAT. 12 by the template 'for every input the law returns true; each argument reads behind the call as it read before'; 0 by the template 'total and deterministic' (their statements: YtnpfoicniodobaaGreatTotals.lean).
  GIVEN WITH THE SEED: the statements are not yours to turn. If you find one false, say at which input.
  Laid BY PROGRAM, IN A SANDBOX (cutbox-rows.mjs): the forced cells as the released guide's own fill.sh prints them over the translation a0b2de382e2bcab3… (all of the seat's roots in one cut). By AI agents, Wed Nov 11 2026. No macro, syntax, notation, axiom, sorry.
-/
import Derived.Test.YtnpfoicniodobaaGreatChecked
import GoSem.Claim
import GoSem.ClaimJoined
import GoSem.ClaimMapViews
import Derived.JoinedTies
import Derived.KernelRfl
namespace Go.Proofs.YtnpfoicniodobaaGreat
/- THE CELL 'sum', in the pinned program and in every row, IS THE sha256 OF THE DUMP (.gsa) THAT YtnpfoicniodobaaGreatProg.lean LOADS. Nothing in Lean hashes anything: it is a label: what it is worth is what the hold of that sum in a sandbox is worth. -/
noncomputable def Tryz.pinned : Pinned := { name := "ytnpfoicniodobaagreat", sum := "a0b2de382e2bcab383bde45ebcf06565c48ef7b1d48df7b4cc6063e4758695d2", checked := Tryz.checked }
namespace Rows
def none {H : Type} : Left H := { results := [], args := [] }

/-- 'terrierlaw19.HealChains': WHATEVER THE INPUT: true; the input reads as it did. -/
def healChainsSpec : ChangeSpec := { name := "healChains", fn := fun _ => fun
  | [d1, d2] => { results := [.lit (.bool true)], args := [d1, d2] }
  | _ => none }
def healChainsRow : OpenClaim := { program := "ytnpfoicniodobaagreat", sum := "a0b2de382e2bcab383bde45ebcf06565c48ef7b1d48df7b4cc6063e4758695d2", func := "terrier/terrierlaw19.HealChains", spec := "healChains", inPlace := ["slices.overlaps[terrier/api.Edge]", "slices.overlaps[terrier/api.P]", "slices.overlaps[terrier/api.Node]"], unfollowed := true, recurses := true, plainKeys := false, apart := false }
def HealChainsSaid : Prop := healChainsRow.holds Tryz.pinned (OpenSpec.ofChange healChainsSpec)

/-- ITS FALSE NEIGHBOUR: 'it returns false'. Refute it at one input. -/
def healChainsWrong : ChangeSpec := { name := "healChains", fn := fun _ => fun
  | [d1, d2] => { results := [.lit (.bool false)], args := [d1, d2] }
  | _ => none }
def HealChainsWrongFalsely : Prop := healChainsRow.holds Tryz.pinned (OpenSpec.ofChange healChainsWrong)

/-- 'terrierlaw20.FindEmpty': WHATEVER THE INPUT: true; the input reads as it did. -/
def findEmptySpec : ChangeSpec := { name := "findEmpty", fn := fun _ => fun
  | [d1, d2, d3, d4] => { results := [.lit (.bool true)], args := [d1, d2, d3, d4] }
  | _ => none }
def findEmptyRow : OpenClaim := { program := "ytnpfoicniodobaagreat", sum := "a0b2de382e2bcab383bde45ebcf06565c48ef7b1d48df7b4cc6063e4758695d2", func := "terrier/terrierlaw20.FindEmpty", spec := "findEmpty", unfollowed := true, recurses := true, plainKeys := false, apart := false }
def FindEmptySaid : Prop := findEmptyRow.holds Tryz.pinned (OpenSpec.ofChange findEmptySpec)

/-- ITS FALSE NEIGHBOUR: 'it returns false'. Refute it at one input. -/
def findEmptyWrong : ChangeSpec := { name := "findEmpty", fn := fun _ => fun
  | [d1, d2, d3, d4] => { results := [.lit (.bool false)], args := [d1, d2, d3, d4] }
  | _ => none }
def FindEmptyWrongFalsely : Prop := findEmptyRow.holds Tryz.pinned (OpenSpec.ofChange findEmptyWrong)

/-- 'terrierlaw20.FindGrids': WHATEVER THE INPUT: true; the input reads as it did. -/
def findGridsSpec : ChangeSpec := { name := "findGrids", fn := fun _ => fun
  | [d1, d2, d3] => { results := [.lit (.bool true)], args := [d1, d2, d3] }
  | _ => none }
def findGridsRow : OpenClaim := { program := "ytnpfoicniodobaagreat", sum := "a0b2de382e2bcab383bde45ebcf06565c48ef7b1d48df7b4cc6063e4758695d2", func := "terrier/terrierlaw20.FindGrids", spec := "findGrids", unfollowed := true, recurses := true, plainKeys := false, apart := false }
def FindGridsSaid : Prop := findGridsRow.holds Tryz.pinned (OpenSpec.ofChange findGridsSpec)

/-- ITS FALSE NEIGHBOUR: 'it returns false'. Refute it at one input. -/
def findGridsWrong : ChangeSpec := { name := "findGrids", fn := fun _ => fun
  | [d1, d2, d3] => { results := [.lit (.bool false)], args := [d1, d2, d3] }
  | _ => none }
def FindGridsWrongFalsely : Prop := findGridsRow.holds Tryz.pinned (OpenSpec.ofChange findGridsWrong)

/-- 'terrierlaw17.TopoUnused': WHATEVER THE INPUT: true; the input reads as it did. -/
def topoUnusedSpec : ChangeSpec := { name := "topoUnused", fn := fun _ => fun
  | [d] => { results := [.lit (.bool true)], args := [d] }
  | _ => none }
def topoUnusedRow : OpenClaim := { program := "ytnpfoicniodobaagreat", sum := "a0b2de382e2bcab383bde45ebcf06565c48ef7b1d48df7b4cc6063e4758695d2", func := "terrier/terrierlaw17.TopoUnused", spec := "topoUnused", inPlace := ["slices.overlaps[terrier/api.Node]"], unfollowed := true, recurses := true, plainKeys := false, apart := false }
def TopoUnusedSaid : Prop := topoUnusedRow.holds Tryz.pinned (OpenSpec.ofChange topoUnusedSpec)

/-- ITS FALSE NEIGHBOUR: 'it returns false'. Refute it at one input. -/
def topoUnusedWrong : ChangeSpec := { name := "topoUnused", fn := fun _ => fun
  | [d] => { results := [.lit (.bool false)], args := [d] }
  | _ => none }
def TopoUnusedWrongFalsely : Prop := topoUnusedRow.holds Tryz.pinned (OpenSpec.ofChange topoUnusedWrong)

/-- 'terrierlaw17.TopoFills': WHATEVER THE INPUT: true; the input reads as it did. -/
def topoFillsSpec : ChangeSpec := { name := "topoFills", fn := fun _ => fun
  | [d1, d2] => { results := [.lit (.bool true)], args := [d1, d2] }
  | _ => none }
def topoFillsRow : OpenClaim := { program := "ytnpfoicniodobaagreat", sum := "a0b2de382e2bcab383bde45ebcf06565c48ef7b1d48df7b4cc6063e4758695d2", func := "terrier/terrierlaw17.TopoFills", spec := "topoFills", inPlace := ["slices.overlaps[terrier/api.Node]"], unfollowed := true, recurses := true, plainKeys := false, apart := false }
def TopoFillsSaid : Prop := topoFillsRow.holds Tryz.pinned (OpenSpec.ofChange topoFillsSpec)

/-- ITS FALSE NEIGHBOUR: 'it returns false'. Refute it at one input. -/
def topoFillsWrong : ChangeSpec := { name := "topoFills", fn := fun _ => fun
  | [d1, d2] => { results := [.lit (.bool false)], args := [d1, d2] }
  | _ => none }
def TopoFillsWrongFalsely : Prop := topoFillsRow.holds Tryz.pinned (OpenSpec.ofChange topoFillsWrong)

/-- 'terrierlaw17.TopoWithin': WHATEVER THE INPUT: true; the input reads as it did. -/
def topoWithinSpec : ChangeSpec := { name := "topoWithin", fn := fun _ => fun
  | [d1, d2, d3, d4] => { results := [.lit (.bool true)], args := [d1, d2, d3, d4] }
  | _ => none }
def topoWithinRow : OpenClaim := { program := "ytnpfoicniodobaagreat", sum := "a0b2de382e2bcab383bde45ebcf06565c48ef7b1d48df7b4cc6063e4758695d2", func := "terrier/terrierlaw17.TopoWithin", spec := "topoWithin", inPlace := ["slices.overlaps[terrier/api.Node]"], unfollowed := true, recurses := true, plainKeys := false, apart := false }
def TopoWithinSaid : Prop := topoWithinRow.holds Tryz.pinned (OpenSpec.ofChange topoWithinSpec)

/-- ITS FALSE NEIGHBOUR: 'it returns false'. Refute it at one input. -/
def topoWithinWrong : ChangeSpec := { name := "topoWithin", fn := fun _ => fun
  | [d1, d2, d3, d4] => { results := [.lit (.bool false)], args := [d1, d2, d3, d4] }
  | _ => none }
def TopoWithinWrongFalsely : Prop := topoWithinRow.holds Tryz.pinned (OpenSpec.ofChange topoWithinWrong)

/-- 'terrierlaw16.ValidMeets': WHATEVER THE INPUT: true; the input reads as it did. -/
def validMeetsSpec : ChangeSpec := { name := "validMeets", fn := fun _ => fun
  | [d1, d2, d3] => { results := [.lit (.bool true)], args := [d1, d2, d3] }
  | _ => none }
def validMeetsRow : OpenClaim := { program := "ytnpfoicniodobaagreat", sum := "a0b2de382e2bcab383bde45ebcf06565c48ef7b1d48df7b4cc6063e4758695d2", func := "terrier/terrierlaw16.ValidMeets", spec := "validMeets", unfollowed := true, recurses := true, plainKeys := false, apart := false }
def ValidMeetsSaid : Prop := validMeetsRow.holds Tryz.pinned (OpenSpec.ofChange validMeetsSpec)

/-- ITS FALSE NEIGHBOUR: 'it returns false'. Refute it at one input. -/
def validMeetsWrong : ChangeSpec := { name := "validMeets", fn := fun _ => fun
  | [d1, d2, d3] => { results := [.lit (.bool false)], args := [d1, d2, d3] }
  | _ => none }
def ValidMeetsWrongFalsely : Prop := validMeetsRow.holds Tryz.pinned (OpenSpec.ofChange validMeetsWrong)

/-- 'terrierlaw16.ValidGrids': WHATEVER THE INPUT: true; the input reads as it did. -/
def validGridsSpec : ChangeSpec := { name := "validGrids", fn := fun _ => fun
  | [d1, d2] => { results := [.lit (.bool true)], args := [d1, d2] }
  | _ => none }
def validGridsRow : OpenClaim := { program := "ytnpfoicniodobaagreat", sum := "a0b2de382e2bcab383bde45ebcf06565c48ef7b1d48df7b4cc6063e4758695d2", func := "terrier/terrierlaw16.ValidGrids", spec := "validGrids", unfollowed := true, recurses := true, plainKeys := false, apart := false }
def ValidGridsSaid : Prop := validGridsRow.holds Tryz.pinned (OpenSpec.ofChange validGridsSpec)

/-- ITS FALSE NEIGHBOUR: 'it returns false'. Refute it at one input. -/
def validGridsWrong : ChangeSpec := { name := "validGrids", fn := fun _ => fun
  | [d1, d2] => { results := [.lit (.bool false)], args := [d1, d2] }
  | _ => none }
def ValidGridsWrongFalsely : Prop := validGridsRow.holds Tryz.pinned (OpenSpec.ofChange validGridsWrong)

/-- 'terrierlaw18.EditCrosses': WHATEVER THE INPUT: true; the input reads as it did. -/
def editCrossesSpec : ChangeSpec := { name := "editCrosses", fn := fun _ => fun
  | [d1, d2, d3, d4] => { results := [.lit (.bool true)], args := [d1, d2, d3, d4] }
  | _ => none }
def editCrossesRow : OpenClaim := { program := "ytnpfoicniodobaagreat", sum := "a0b2de382e2bcab383bde45ebcf06565c48ef7b1d48df7b4cc6063e4758695d2", func := "terrier/terrierlaw18.EditCrosses", spec := "editCrosses", inPlace := ["slices.overlaps[terrier/api.Edge]"], unfollowed := true, recurses := true, plainKeys := false, apart := false }
def EditCrossesSaid : Prop := editCrossesRow.holds Tryz.pinned (OpenSpec.ofChange editCrossesSpec)

/-- ITS FALSE NEIGHBOUR: 'it returns false'. Refute it at one input. -/
def editCrossesWrong : ChangeSpec := { name := "editCrosses", fn := fun _ => fun
  | [d1, d2, d3, d4] => { results := [.lit (.bool false)], args := [d1, d2, d3, d4] }
  | _ => none }
def EditCrossesWrongFalsely : Prop := editCrossesRow.holds Tryz.pinned (OpenSpec.ofChange editCrossesWrong)

/-- 'terrierlaw18.EditBridges': WHATEVER THE INPUT: true; the input reads as it did. -/
def editBridgesSpec : ChangeSpec := { name := "editBridges", fn := fun _ => fun
  | [d1, d2] => { results := [.lit (.bool true)], args := [d1, d2] }
  | _ => none }
def editBridgesRow : OpenClaim := { program := "ytnpfoicniodobaagreat", sum := "a0b2de382e2bcab383bde45ebcf06565c48ef7b1d48df7b4cc6063e4758695d2", func := "terrier/terrierlaw18.EditBridges", spec := "editBridges", inPlace := ["slices.overlaps[terrier/api.Edge]"], unfollowed := true, recurses := true, plainKeys := false, apart := false }
def EditBridgesSaid : Prop := editBridgesRow.holds Tryz.pinned (OpenSpec.ofChange editBridgesSpec)

/-- ITS FALSE NEIGHBOUR: 'it returns false'. Refute it at one input. -/
def editBridgesWrong : ChangeSpec := { name := "editBridges", fn := fun _ => fun
  | [d1, d2] => { results := [.lit (.bool false)], args := [d1, d2] }
  | _ => none }
def EditBridgesWrongFalsely : Prop := editBridgesRow.holds Tryz.pinned (OpenSpec.ofChange editBridgesWrong)

/-- 'terrierlaw18.EditNests': WHATEVER THE INPUT: true; the input reads as it did. -/
def editNestsSpec : ChangeSpec := { name := "editNests", fn := fun _ => fun
  | [d1, d2, d3, d4] => { results := [.lit (.bool true)], args := [d1, d2, d3, d4] }
  | _ => none }
def editNestsRow : OpenClaim := { program := "ytnpfoicniodobaagreat", sum := "a0b2de382e2bcab383bde45ebcf06565c48ef7b1d48df7b4cc6063e4758695d2", func := "terrier/terrierlaw18.EditNests", spec := "editNests", inPlace := ["slices.overlaps[terrier/api.Edge]"], unfollowed := true, recurses := true, plainKeys := false, apart := false }
def EditNestsSaid : Prop := editNestsRow.holds Tryz.pinned (OpenSpec.ofChange editNestsSpec)

/-- ITS FALSE NEIGHBOUR: 'it returns false'. Refute it at one input. -/
def editNestsWrong : ChangeSpec := { name := "editNests", fn := fun _ => fun
  | [d1, d2, d3, d4] => { results := [.lit (.bool false)], args := [d1, d2, d3, d4] }
  | _ => none }
def EditNestsWrongFalsely : Prop := editNestsRow.holds Tryz.pinned (OpenSpec.ofChange editNestsWrong)

/-- 'terrierlaw18.EditFans': WHATEVER THE INPUT: true; the input reads as it did. -/
def editFansSpec : ChangeSpec := { name := "editFans", fn := fun _ => fun
  | [d1, d2] => { results := [.lit (.bool true)], args := [d1, d2] }
  | _ => none }
def editFansRow : OpenClaim := { program := "ytnpfoicniodobaagreat", sum := "a0b2de382e2bcab383bde45ebcf06565c48ef7b1d48df7b4cc6063e4758695d2", func := "terrier/terrierlaw18.EditFans", spec := "editFans", inPlace := ["slices.overlaps[terrier/api.Edge]"], unfollowed := true, recurses := true, plainKeys := false, apart := false }
def EditFansSaid : Prop := editFansRow.holds Tryz.pinned (OpenSpec.ofChange editFansSpec)

/-- ITS FALSE NEIGHBOUR: 'it returns false'. Refute it at one input. -/
def editFansWrong : ChangeSpec := { name := "editFans", fn := fun _ => fun
  | [d1, d2] => { results := [.lit (.bool false)], args := [d1, d2] }
  | _ => none }
def EditFansWrongFalsely : Prop := editFansRow.holds Tryz.pinned (OpenSpec.ofChange editFansWrong)

/- THE SECOND FORM. 'bulk': how many values and letters a reading holds, each counted each time it is reached (what is shared counts as often as it is met; a slice's spare places count too). A statement '..UptoSaid' is the law's where the arguments, and the package variables that the reading takes, are together of bulk at most 1048576: NARROWER than '..Said'. Prove '..Said' where nothing that the law and all that it calls make is longer than what came in: it says more and counts as full. Else prove '..UptoSaid'. A law counts once. -/
mutual
def uptoBulk {H : Type} : DataW H → Nat
  | .lit (.string bytes) => bytes.length + 1
  | .lit _ => 1
  | .nil => 1
  | .ptr d => uptoBulk d + 1
  | .slice elems spare => uptoBulkAll elems + uptoBulkAll spare + 1
  | .agg parts => uptoBulkAll parts + 1
  | .iface _ d => uptoBulk d + 1
  | .map entries => uptoBulkEntries entries + 1
  | .held _ => 1
def uptoBulkAll {H : Type} : List (DataW H) → Nat
  | [] => 0
  | d :: r => uptoBulk d + uptoBulkAll r
def uptoBulkEntries {H : Type} : List (Lit × DataW H) → Nat
  | [] => 0
  | x :: r => uptoBulkEntry x + uptoBulkEntries r
def uptoBulkEntry {H : Type} : Lit × DataW H → Nat
  | (.string bytes, d) => bytes.length + uptoBulk d + 1
  | (_, d) => uptoBulk d + 1
 end
def uptoSmall : (H : Type) → List (DataW H) → Bool := fun _ ds => decide (uptoBulkAll ds ≤ 1048576)
def OpenSpec.upto (s : _root_.Go.ChangeSpec) : _root_.Go.OpenSpec := { _root_.Go.OpenSpec.ofChange s with cond := some uptoSmall }

/-- 'terrierlaw19.HealChains', WHERE WHAT IT READS IS OF BULK AT MOST 1048576: true; the input reads as it did. -/
def healChainsUptoRow : OpenClaim := { program := "ytnpfoicniodobaagreat", sum := "a0b2de382e2bcab383bde45ebcf06565c48ef7b1d48df7b4cc6063e4758695d2", func := "terrier/terrierlaw19.HealChains", spec := "healChains", inPlace := ["slices.overlaps[terrier/api.Edge]", "slices.overlaps[terrier/api.P]", "slices.overlaps[terrier/api.Node]"], unfollowed := true, recurses := true, plainKeys := false, apart := false, narrowed := true }
def HealChainsUptoSaid : Prop := healChainsUptoRow.holds Tryz.pinned (OpenSpec.upto healChainsSpec)

/-- 'terrierlaw20.FindEmpty', WHERE WHAT IT READS IS OF BULK AT MOST 1048576: true; the input reads as it did. -/
def findEmptyUptoRow : OpenClaim := { program := "ytnpfoicniodobaagreat", sum := "a0b2de382e2bcab383bde45ebcf06565c48ef7b1d48df7b4cc6063e4758695d2", func := "terrier/terrierlaw20.FindEmpty", spec := "findEmpty", unfollowed := true, recurses := true, plainKeys := false, apart := false, narrowed := true }
def FindEmptyUptoSaid : Prop := findEmptyUptoRow.holds Tryz.pinned (OpenSpec.upto findEmptySpec)

/-- 'terrierlaw20.FindGrids', WHERE WHAT IT READS IS OF BULK AT MOST 1048576: true; the input reads as it did. -/
def findGridsUptoRow : OpenClaim := { program := "ytnpfoicniodobaagreat", sum := "a0b2de382e2bcab383bde45ebcf06565c48ef7b1d48df7b4cc6063e4758695d2", func := "terrier/terrierlaw20.FindGrids", spec := "findGrids", unfollowed := true, recurses := true, plainKeys := false, apart := false, narrowed := true }
def FindGridsUptoSaid : Prop := findGridsUptoRow.holds Tryz.pinned (OpenSpec.upto findGridsSpec)

/-- 'terrierlaw17.TopoUnused', WHERE WHAT IT READS IS OF BULK AT MOST 1048576: true; the input reads as it did. -/
def topoUnusedUptoRow : OpenClaim := { program := "ytnpfoicniodobaagreat", sum := "a0b2de382e2bcab383bde45ebcf06565c48ef7b1d48df7b4cc6063e4758695d2", func := "terrier/terrierlaw17.TopoUnused", spec := "topoUnused", inPlace := ["slices.overlaps[terrier/api.Node]"], unfollowed := true, recurses := true, plainKeys := false, apart := false, narrowed := true }
def TopoUnusedUptoSaid : Prop := topoUnusedUptoRow.holds Tryz.pinned (OpenSpec.upto topoUnusedSpec)

/-- 'terrierlaw17.TopoFills', WHERE WHAT IT READS IS OF BULK AT MOST 1048576: true; the input reads as it did. -/
def topoFillsUptoRow : OpenClaim := { program := "ytnpfoicniodobaagreat", sum := "a0b2de382e2bcab383bde45ebcf06565c48ef7b1d48df7b4cc6063e4758695d2", func := "terrier/terrierlaw17.TopoFills", spec := "topoFills", inPlace := ["slices.overlaps[terrier/api.Node]"], unfollowed := true, recurses := true, plainKeys := false, apart := false, narrowed := true }
def TopoFillsUptoSaid : Prop := topoFillsUptoRow.holds Tryz.pinned (OpenSpec.upto topoFillsSpec)

/-- 'terrierlaw17.TopoWithin', WHERE WHAT IT READS IS OF BULK AT MOST 1048576: true; the input reads as it did. -/
def topoWithinUptoRow : OpenClaim := { program := "ytnpfoicniodobaagreat", sum := "a0b2de382e2bcab383bde45ebcf06565c48ef7b1d48df7b4cc6063e4758695d2", func := "terrier/terrierlaw17.TopoWithin", spec := "topoWithin", inPlace := ["slices.overlaps[terrier/api.Node]"], unfollowed := true, recurses := true, plainKeys := false, apart := false, narrowed := true }
def TopoWithinUptoSaid : Prop := topoWithinUptoRow.holds Tryz.pinned (OpenSpec.upto topoWithinSpec)

/-- 'terrierlaw16.ValidMeets', WHERE WHAT IT READS IS OF BULK AT MOST 1048576: true; the input reads as it did. -/
def validMeetsUptoRow : OpenClaim := { program := "ytnpfoicniodobaagreat", sum := "a0b2de382e2bcab383bde45ebcf06565c48ef7b1d48df7b4cc6063e4758695d2", func := "terrier/terrierlaw16.ValidMeets", spec := "validMeets", unfollowed := true, recurses := true, plainKeys := false, apart := false, narrowed := true }
def ValidMeetsUptoSaid : Prop := validMeetsUptoRow.holds Tryz.pinned (OpenSpec.upto validMeetsSpec)

/-- 'terrierlaw16.ValidGrids', WHERE WHAT IT READS IS OF BULK AT MOST 1048576: true; the input reads as it did. -/
def validGridsUptoRow : OpenClaim := { program := "ytnpfoicniodobaagreat", sum := "a0b2de382e2bcab383bde45ebcf06565c48ef7b1d48df7b4cc6063e4758695d2", func := "terrier/terrierlaw16.ValidGrids", spec := "validGrids", unfollowed := true, recurses := true, plainKeys := false, apart := false, narrowed := true }
def ValidGridsUptoSaid : Prop := validGridsUptoRow.holds Tryz.pinned (OpenSpec.upto validGridsSpec)

/-- 'terrierlaw18.EditCrosses', WHERE WHAT IT READS IS OF BULK AT MOST 1048576: true; the input reads as it did. -/
def editCrossesUptoRow : OpenClaim := { program := "ytnpfoicniodobaagreat", sum := "a0b2de382e2bcab383bde45ebcf06565c48ef7b1d48df7b4cc6063e4758695d2", func := "terrier/terrierlaw18.EditCrosses", spec := "editCrosses", inPlace := ["slices.overlaps[terrier/api.Edge]"], unfollowed := true, recurses := true, plainKeys := false, apart := false, narrowed := true }
def EditCrossesUptoSaid : Prop := editCrossesUptoRow.holds Tryz.pinned (OpenSpec.upto editCrossesSpec)

/-- 'terrierlaw18.EditBridges', WHERE WHAT IT READS IS OF BULK AT MOST 1048576: true; the input reads as it did. -/
def editBridgesUptoRow : OpenClaim := { program := "ytnpfoicniodobaagreat", sum := "a0b2de382e2bcab383bde45ebcf06565c48ef7b1d48df7b4cc6063e4758695d2", func := "terrier/terrierlaw18.EditBridges", spec := "editBridges", inPlace := ["slices.overlaps[terrier/api.Edge]"], unfollowed := true, recurses := true, plainKeys := false, apart := false, narrowed := true }
def EditBridgesUptoSaid : Prop := editBridgesUptoRow.holds Tryz.pinned (OpenSpec.upto editBridgesSpec)

/-- 'terrierlaw18.EditNests', WHERE WHAT IT READS IS OF BULK AT MOST 1048576: true; the input reads as it did. -/
def editNestsUptoRow : OpenClaim := { program := "ytnpfoicniodobaagreat", sum := "a0b2de382e2bcab383bde45ebcf06565c48ef7b1d48df7b4cc6063e4758695d2", func := "terrier/terrierlaw18.EditNests", spec := "editNests", inPlace := ["slices.overlaps[terrier/api.Edge]"], unfollowed := true, recurses := true, plainKeys := false, apart := false, narrowed := true }
def EditNestsUptoSaid : Prop := editNestsUptoRow.holds Tryz.pinned (OpenSpec.upto editNestsSpec)

/-- 'terrierlaw18.EditFans', WHERE WHAT IT READS IS OF BULK AT MOST 1048576: true; the input reads as it did. -/
def editFansUptoRow : OpenClaim := { program := "ytnpfoicniodobaagreat", sum := "a0b2de382e2bcab383bde45ebcf06565c48ef7b1d48df7b4cc6063e4758695d2", func := "terrier/terrierlaw18.EditFans", spec := "editFans", inPlace := ["slices.overlaps[terrier/api.Edge]"], unfollowed := true, recurses := true, plainKeys := false, apart := false, narrowed := true }
def EditFansUptoSaid : Prop := editFansUptoRow.holds Tryz.pinned (OpenSpec.upto editFansSpec)

end Rows
end Go.Proofs.YtnpfoicniodobaaGreat
