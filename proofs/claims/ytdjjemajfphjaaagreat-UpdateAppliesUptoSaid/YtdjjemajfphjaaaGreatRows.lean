/-
  No cell of these rows narrows 'for every input' (looked for: loops, veiled, ifaces, maps, wideKeys, modest, calm, conditions, laid).
  DERIVED. THE GIVEN ROWS OF THIS SEAT. 3 by the template 'for every input the law returns true; each argument reads behind the call as it read before'; 0 by the template 'total and deterministic' (their statements: YtdjjemajfphjaaaGreatTotals.lean).
  GIVEN WITH THE SEED: the statements are not yours to turn. If you find one false, say at which input.
  Laid BY PROGRAM, IN A SANDBOX (cutbox-rows.mjs): the forced cells as the released guide's own fill.sh prints them over the translation c7f7df08afb49206… (all of the seat's roots in one cut). By AI agents, Wed Nov 11 2026. No macro, syntax, notation, axiom, sorry.
-/
import Derived.Test.YtdjjemajfphjaaaGreatChecked
import GoSem.Claim
import GoSem.ClaimJoined
import GoSem.ClaimMapViews
import Derived.JoinedTies
import Derived.KernelRfl
namespace Go.Proofs.YtdjjemajfphjaaaGreat
/- THE CELL 'sum', in the pinned program and in every row, IS THE sha256 OF THE DUMP (.gsa) THAT YtdjjemajfphjaaaGreatProg.lean LOADS. Nothing in Lean hashes anything: it is a label: what it is worth is what the hold of that sum in a sandbox is worth. -/
noncomputable def Tryz.pinned : Pinned := { name := "ytdjjemajfphjaaagreat", sum := "c7f7df08afb4920670636bf8c07989e004eca0da96fa82d0dfee70cdb7c13747", checked := Tryz.checked }
namespace Rows
def none {H : Type} : Left H := { results := [], args := [] }

/-- 'gazetteerlaw6.UpdateChecks': WHATEVER THE INPUT: true; the input reads as it did. -/
def updateChecksSpec : ChangeSpec := { name := "updateChecks", fn := fun _ => fun
  | [d1, d2, d3] => { results := [.lit (.bool true)], args := [d1, d2, d3] }
  | _ => none }
def updateChecksRow : OpenClaim := { program := "ytdjjemajfphjaaagreat", sum := "c7f7df08afb4920670636bf8c07989e004eca0da96fa82d0dfee70cdb7c13747", func := "gazetteer/gazetteerlaw6.UpdateChecks", spec := "updateChecks", inPlace := ["internal/abi.NoEscape", "internal/bytealg.abigen_runtime_cmpstring"], unfollowed := true, recurses := true, plainKeys := false, apart := false }
def UpdateChecksSaid : Prop := updateChecksRow.holds Tryz.pinned (OpenSpec.ofChange updateChecksSpec)

/-- ITS FALSE NEIGHBOUR: 'it returns false'. Refute it at one input. -/
def updateChecksWrong : ChangeSpec := { name := "updateChecks", fn := fun _ => fun
  | [d1, d2, d3] => { results := [.lit (.bool false)], args := [d1, d2, d3] }
  | _ => none }
def UpdateChecksWrongFalsely : Prop := updateChecksRow.holds Tryz.pinned (OpenSpec.ofChange updateChecksWrong)

/-- 'gazetteerlaw6.UpdateApplies': WHATEVER THE INPUT: true; the input reads as it did. -/
def updateAppliesSpec : ChangeSpec := { name := "updateApplies", fn := fun _ => fun
  | [d1, d2, d3] => { results := [.lit (.bool true)], args := [d1, d2, d3] }
  | _ => none }
def updateAppliesRow : OpenClaim := { program := "ytdjjemajfphjaaagreat", sum := "c7f7df08afb4920670636bf8c07989e004eca0da96fa82d0dfee70cdb7c13747", func := "gazetteer/gazetteerlaw6.UpdateApplies", spec := "updateApplies", inPlace := ["internal/abi.NoEscape", "internal/bytealg.abigen_runtime_cmpstring"], unfollowed := true, recurses := true, plainKeys := false, apart := false }
def UpdateAppliesSaid : Prop := updateAppliesRow.holds Tryz.pinned (OpenSpec.ofChange updateAppliesSpec)

/-- ITS FALSE NEIGHBOUR: 'it returns false'. Refute it at one input. -/
def updateAppliesWrong : ChangeSpec := { name := "updateApplies", fn := fun _ => fun
  | [d1, d2, d3] => { results := [.lit (.bool false)], args := [d1, d2, d3] }
  | _ => none }
def UpdateAppliesWrongFalsely : Prop := updateAppliesRow.holds Tryz.pinned (OpenSpec.ofChange updateAppliesWrong)

/-- 'gazetteerlaw6.UpdateTwice': WHATEVER THE INPUT: true; the input reads as it did. -/
def updateTwiceSpec : ChangeSpec := { name := "updateTwice", fn := fun _ => fun
  | [d1, d2, d3] => { results := [.lit (.bool true)], args := [d1, d2, d3] }
  | _ => none }
def updateTwiceRow : OpenClaim := { program := "ytdjjemajfphjaaagreat", sum := "c7f7df08afb4920670636bf8c07989e004eca0da96fa82d0dfee70cdb7c13747", func := "gazetteer/gazetteerlaw6.UpdateTwice", spec := "updateTwice", inPlace := ["internal/abi.NoEscape", "internal/bytealg.abigen_runtime_cmpstring"], unfollowed := true, recurses := true, plainKeys := false, apart := false }
def UpdateTwiceSaid : Prop := updateTwiceRow.holds Tryz.pinned (OpenSpec.ofChange updateTwiceSpec)

/-- ITS FALSE NEIGHBOUR: 'it returns false'. Refute it at one input. -/
def updateTwiceWrong : ChangeSpec := { name := "updateTwice", fn := fun _ => fun
  | [d1, d2, d3] => { results := [.lit (.bool false)], args := [d1, d2, d3] }
  | _ => none }
def UpdateTwiceWrongFalsely : Prop := updateTwiceRow.holds Tryz.pinned (OpenSpec.ofChange updateTwiceWrong)

/- THE SECOND FORM. 'bulk': how many values and letters a reading holds, each counted each time it is reached (what is shared counts as often as it is met; a slice's spare places count too). A statement '..UptoSaid' is the law's where the arguments, and the package variables that the reading takes, are together of bulk at most 1048576: NARROWER than '..Said'. Prove '..Said' where nothing that the law and all that it calls make is longer than what came in: it says more and counts as full. Else prove '..UptoSaid'. A law counts once. -/
mutual
def uptoBulk {H : Type} : DataW H → Nat
  | .lit (.string bytes) => bytes.length + 1
  | .lit _ => 1
  | .nil => 1
  | .ptr d => uptoBulk d + 1
  | .slice elems spare => uptoBulkAll elems + uptoBulkAll spare + 1
  | .agg parts => uptoBulkAll parts + 1
  | .iface _ d => uptoBulk d + 1
  | .map entries => uptoBulkEntries entries + 1
  | .held _ => 1
def uptoBulkAll {H : Type} : List (DataW H) → Nat
  | [] => 0
  | d :: r => uptoBulk d + uptoBulkAll r
def uptoBulkEntries {H : Type} : List (Lit × DataW H) → Nat
  | [] => 0
  | x :: r => uptoBulkEntry x + uptoBulkEntries r
def uptoBulkEntry {H : Type} : Lit × DataW H → Nat
  | (.string bytes, d) => bytes.length + uptoBulk d + 1
  | (_, d) => uptoBulk d + 1
 end
def uptoSmall : (H : Type) → List (DataW H) → Bool := fun _ ds => decide (uptoBulkAll ds ≤ 1048576)
def OpenSpec.upto (s : _root_.Go.ChangeSpec) : _root_.Go.OpenSpec := { _root_.Go.OpenSpec.ofChange s with cond := some uptoSmall }

/-- 'gazetteerlaw6.UpdateChecks', WHERE WHAT IT READS IS OF BULK AT MOST 1048576: true; the input reads as it did. -/
def updateChecksUptoRow : OpenClaim := { program := "ytdjjemajfphjaaagreat", sum := "c7f7df08afb4920670636bf8c07989e004eca0da96fa82d0dfee70cdb7c13747", func := "gazetteer/gazetteerlaw6.UpdateChecks", spec := "updateChecks", inPlace := ["internal/abi.NoEscape", "internal/bytealg.abigen_runtime_cmpstring"], unfollowed := true, recurses := true, plainKeys := false, apart := false, narrowed := true }
def UpdateChecksUptoSaid : Prop := updateChecksUptoRow.holds Tryz.pinned (OpenSpec.upto updateChecksSpec)

/-- 'gazetteerlaw6.UpdateApplies', WHERE WHAT IT READS IS OF BULK AT MOST 1048576: true; the input reads as it did. -/
def updateAppliesUptoRow : OpenClaim := { program := "ytdjjemajfphjaaagreat", sum := "c7f7df08afb4920670636bf8c07989e004eca0da96fa82d0dfee70cdb7c13747", func := "gazetteer/gazetteerlaw6.UpdateApplies", spec := "updateApplies", inPlace := ["internal/abi.NoEscape", "internal/bytealg.abigen_runtime_cmpstring"], unfollowed := true, recurses := true, plainKeys := false, apart := false, narrowed := true }
def UpdateAppliesUptoSaid : Prop := updateAppliesUptoRow.holds Tryz.pinned (OpenSpec.upto updateAppliesSpec)

/-- 'gazetteerlaw6.UpdateTwice', WHERE WHAT IT READS IS OF BULK AT MOST 1048576: true; the input reads as it did. -/
def updateTwiceUptoRow : OpenClaim := { program := "ytdjjemajfphjaaagreat", sum := "c7f7df08afb4920670636bf8c07989e004eca0da96fa82d0dfee70cdb7c13747", func := "gazetteer/gazetteerlaw6.UpdateTwice", spec := "updateTwice", inPlace := ["internal/abi.NoEscape", "internal/bytealg.abigen_runtime_cmpstring"], unfollowed := true, recurses := true, plainKeys := false, apart := false, narrowed := true }
def UpdateTwiceUptoSaid : Prop := updateTwiceUptoRow.holds Tryz.pinned (OpenSpec.upto updateTwiceSpec)

end Rows
end Go.Proofs.YtdjjemajfphjaaaGreat
