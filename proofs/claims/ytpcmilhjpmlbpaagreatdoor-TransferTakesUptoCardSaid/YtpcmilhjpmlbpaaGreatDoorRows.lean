/-
  NARROWER THAN 'FOR EVERY INPUT', by the rows' own cells (each row's printed sentence says how): TransferAnswers: laid · TransferTakes: laid · TransferCopies: laid.
  DERIVED. THE GIVEN ROWS OF THIS SEAT. 3 by the template 'for every input the law returns true; each argument reads behind the call as it read before'; 0 by the template 'total and deterministic' (their statements: YtpcmilhjpmlbpaaGreatDoorTotals.lean).
  GIVEN WITH THE SEED: the statements are not yours to turn. If you find one false, say at which input.
  Laid BY PROGRAM, IN A SANDBOX (cutbox-rows.mjs): the forced cells as the released guide's own fill.sh prints them over the translation f3364ca1ac58855c… (all of the seat's roots in one cut). By AI agents, Wed Nov 11 2026. No macro, syntax, notation, axiom, sorry.
-/
import Derived.Test.YtpcmilhjpmlbpaaGreatDoorChecked
import GoSem.Claim
import GoSem.ClaimJoined
import GoSem.ClaimMapViews
import Derived.JoinedTies
import Derived.KernelRfl
namespace Go.Proofs.YtpcmilhjpmlbpaaGreatDoor
/- THE CELL 'sum', in the pinned program and in every row, IS THE sha256 OF THE DUMP (.gsa) THAT YtpcmilhjpmlbpaaGreatDoorProg.lean LOADS. Nothing in Lean hashes anything: it is a label: what it is worth is what the hold of that sum in a sandbox is worth. -/
noncomputable def Tryz.pinned : Pinned := { name := "ytpcmilhjpmlbpaagreatdoor", sum := "f3364ca1ac58855cab32647d93c203805b2e4db98bf72c1a87cd4f3a30c8372a", checked := Tryz.checked }
namespace Rows
def none {H : Type} : Left H := { results := [], args := [] }

/- WHAT THE LISTED PACKAGE-LEVEL VARIABLES READ AS WHEN THE CALL BEGINS. Each datum BY PROGRAM (the guide's laid-datum.mjs) off the statement by which the dump's own 'gosem.cut.vars' lays the variable. In a bare row this is a premise. The card (YtpcmilhjpmlbpaaGreatDoorCards.lean) ties it to the program's text. -/
def laid_errors_errorType {H : Type} : DataW H := .iface "internal/reflectlite.rtype" (.agg [.ptr (.lit (.string [101, 114, 114, 111, 114]))])

/-- 'gazetteerlaw7.TransferAnswers': WHATEVER THE INPUT: true; the input reads as it did. -/
def transferAnswersSpec : ChangeSpec := { name := "transferAnswers", fn := fun _ => fun
  | [d1, d2, d3, d4] => { results := [.lit (.bool true)], args := [d1, d2, d3, d4] }
  | _ => none }
def transferAnswersRow : OpenClaim := { program := "ytpcmilhjpmlbpaagreatdoor", sum := "f3364ca1ac58855cab32647d93c203805b2e4db98bf72c1a87cd4f3a30c8372a", func := "gazetteer/gazetteerlaw7.TransferAnswers", spec := "transferAnswers", inPlace := ["internal/abi.NoEscape", "internal/bytealg.abigen_runtime_cmpstring", "internal/reflectlite.ValueOf", "(internal/reflectlite.Value).Type", "(internal/reflectlite.Value).IsNil", "internal/reflectlite.TypeOf", "(internal/reflectlite.Value).Elem", "(internal/reflectlite.Value).Set"], unfollowed := true, recurses := true, named := ["errors.errorType"], plainKeys := false, apart := false, laid := [("errors.errorType", laid_errors_errorType)] }
def TransferAnswersSaid : Prop := transferAnswersRow.holds Tryz.pinned (OpenSpec.ofChange transferAnswersSpec)

/-- ITS FALSE NEIGHBOUR: 'it returns false'. Refute it at one input. -/
def transferAnswersWrong : ChangeSpec := { name := "transferAnswers", fn := fun _ => fun
  | [d1, d2, d3, d4] => { results := [.lit (.bool false)], args := [d1, d2, d3, d4] }
  | _ => none }
def TransferAnswersWrongFalsely : Prop := transferAnswersRow.holds Tryz.pinned (OpenSpec.ofChange transferAnswersWrong)

/-- 'gazetteerlaw7.TransferTakes': WHATEVER THE INPUT: true; the input reads as it did. -/
def transferTakesSpec : ChangeSpec := { name := "transferTakes", fn := fun _ => fun
  | [d1, d2, d3, d4, d5, d6] => { results := [.lit (.bool true)], args := [d1, d2, d3, d4, d5, d6] }
  | _ => none }
def transferTakesRow : OpenClaim := { program := "ytpcmilhjpmlbpaagreatdoor", sum := "f3364ca1ac58855cab32647d93c203805b2e4db98bf72c1a87cd4f3a30c8372a", func := "gazetteer/gazetteerlaw7.TransferTakes", spec := "transferTakes", inPlace := ["internal/abi.NoEscape", "internal/bytealg.abigen_runtime_cmpstring", "internal/reflectlite.ValueOf", "(internal/reflectlite.Value).Type", "(internal/reflectlite.Value).IsNil", "internal/reflectlite.TypeOf", "(internal/reflectlite.Value).Elem", "(internal/reflectlite.Value).Set"], unfollowed := true, recurses := true, named := ["errors.errorType"], plainKeys := false, apart := false, laid := [("errors.errorType", laid_errors_errorType)] }
def TransferTakesSaid : Prop := transferTakesRow.holds Tryz.pinned (OpenSpec.ofChange transferTakesSpec)

/-- ITS FALSE NEIGHBOUR: 'it returns false'. Refute it at one input. -/
def transferTakesWrong : ChangeSpec := { name := "transferTakes", fn := fun _ => fun
  | [d1, d2, d3, d4, d5, d6] => { results := [.lit (.bool false)], args := [d1, d2, d3, d4, d5, d6] }
  | _ => none }
def TransferTakesWrongFalsely : Prop := transferTakesRow.holds Tryz.pinned (OpenSpec.ofChange transferTakesWrong)

/-- 'gazetteerlaw7.TransferCopies': WHATEVER THE INPUT: true; the input reads as it did. -/
def transferCopiesSpec : ChangeSpec := { name := "transferCopies", fn := fun _ => fun
  | [d1, d2, d3, d4, d5] => { results := [.lit (.bool true)], args := [d1, d2, d3, d4, d5] }
  | _ => none }
def transferCopiesRow : OpenClaim := { program := "ytpcmilhjpmlbpaagreatdoor", sum := "f3364ca1ac58855cab32647d93c203805b2e4db98bf72c1a87cd4f3a30c8372a", func := "gazetteer/gazetteerlaw7.TransferCopies", spec := "transferCopies", inPlace := ["internal/abi.NoEscape", "internal/bytealg.abigen_runtime_cmpstring", "internal/reflectlite.ValueOf", "(internal/reflectlite.Value).Type", "(internal/reflectlite.Value).IsNil", "internal/reflectlite.TypeOf", "(internal/reflectlite.Value).Elem", "(internal/reflectlite.Value).Set"], unfollowed := true, recurses := true, named := ["errors.errorType"], plainKeys := false, apart := false, laid := [("errors.errorType", laid_errors_errorType)] }
def TransferCopiesSaid : Prop := transferCopiesRow.holds Tryz.pinned (OpenSpec.ofChange transferCopiesSpec)

/-- ITS FALSE NEIGHBOUR: 'it returns false'. Refute it at one input. -/
def transferCopiesWrong : ChangeSpec := { name := "transferCopies", fn := fun _ => fun
  | [d1, d2, d3, d4, d5] => { results := [.lit (.bool false)], args := [d1, d2, d3, d4, d5] }
  | _ => none }
def TransferCopiesWrongFalsely : Prop := transferCopiesRow.holds Tryz.pinned (OpenSpec.ofChange transferCopiesWrong)

/- THE SECOND FORM. 'bulk': how many values and letters a reading holds, each counted each time it is reached (what is shared counts as often as it is met; a slice's spare places count too). A statement '..UptoSaid' is the law's where the arguments, and the package variables that the reading takes, are together of bulk at most 1048576: NARROWER than '..Said'. Prove '..Said' where nothing that the law and all that it calls make is longer than what came in: it says more and counts as full. Else prove '..UptoSaid'. A law counts once. -/
mutual
def uptoBulk {H : Type} : DataW H → Nat
  | .lit (.string bytes) => bytes.length + 1
  | .lit _ => 1
  | .nil => 1
  | .ptr d => uptoBulk d + 1
  | .slice elems spare => uptoBulkAll elems + uptoBulkAll spare + 1
  | .agg parts => uptoBulkAll parts + 1
  | .iface _ d => uptoBulk d + 1
  | .map entries => uptoBulkEntries entries + 1
  | .held _ => 1
def uptoBulkAll {H : Type} : List (DataW H) → Nat
  | [] => 0
  | d :: r => uptoBulk d + uptoBulkAll r
def uptoBulkEntries {H : Type} : List (Lit × DataW H) → Nat
  | [] => 0
  | x :: r => uptoBulkEntry x + uptoBulkEntries r
def uptoBulkEntry {H : Type} : Lit × DataW H → Nat
  | (.string bytes, d) => bytes.length + uptoBulk d + 1
  | (_, d) => uptoBulk d + 1
 end
def uptoSmall : (H : Type) → List (DataW H) → Bool := fun _ ds => decide (uptoBulkAll ds ≤ 1048576)
def OpenSpec.upto (s : _root_.Go.ChangeSpec) : _root_.Go.OpenSpec := { _root_.Go.OpenSpec.ofChange s with cond := some uptoSmall }

/-- 'gazetteerlaw7.TransferAnswers', WHERE WHAT IT READS IS OF BULK AT MOST 1048576: true; the input reads as it did. -/
def transferAnswersUptoRow : OpenClaim := { program := "ytpcmilhjpmlbpaagreatdoor", sum := "f3364ca1ac58855cab32647d93c203805b2e4db98bf72c1a87cd4f3a30c8372a", func := "gazetteer/gazetteerlaw7.TransferAnswers", spec := "transferAnswers", inPlace := ["internal/abi.NoEscape", "internal/bytealg.abigen_runtime_cmpstring", "internal/reflectlite.ValueOf", "(internal/reflectlite.Value).Type", "(internal/reflectlite.Value).IsNil", "internal/reflectlite.TypeOf", "(internal/reflectlite.Value).Elem", "(internal/reflectlite.Value).Set"], unfollowed := true, recurses := true, named := ["errors.errorType"], plainKeys := false, apart := false, laid := [("errors.errorType", laid_errors_errorType)], narrowed := true }
def TransferAnswersUptoSaid : Prop := transferAnswersUptoRow.holds Tryz.pinned (OpenSpec.upto transferAnswersSpec)

/-- 'gazetteerlaw7.TransferTakes', WHERE WHAT IT READS IS OF BULK AT MOST 1048576: true; the input reads as it did. -/
def transferTakesUptoRow : OpenClaim := { program := "ytpcmilhjpmlbpaagreatdoor", sum := "f3364ca1ac58855cab32647d93c203805b2e4db98bf72c1a87cd4f3a30c8372a", func := "gazetteer/gazetteerlaw7.TransferTakes", spec := "transferTakes", inPlace := ["internal/abi.NoEscape", "internal/bytealg.abigen_runtime_cmpstring", "internal/reflectlite.ValueOf", "(internal/reflectlite.Value).Type", "(internal/reflectlite.Value).IsNil", "internal/reflectlite.TypeOf", "(internal/reflectlite.Value).Elem", "(internal/reflectlite.Value).Set"], unfollowed := true, recurses := true, named := ["errors.errorType"], plainKeys := false, apart := false, laid := [("errors.errorType", laid_errors_errorType)], narrowed := true }
def TransferTakesUptoSaid : Prop := transferTakesUptoRow.holds Tryz.pinned (OpenSpec.upto transferTakesSpec)

/-- 'gazetteerlaw7.TransferCopies', WHERE WHAT IT READS IS OF BULK AT MOST 1048576: true; the input reads as it did. -/
def transferCopiesUptoRow : OpenClaim := { program := "ytpcmilhjpmlbpaagreatdoor", sum := "f3364ca1ac58855cab32647d93c203805b2e4db98bf72c1a87cd4f3a30c8372a", func := "gazetteer/gazetteerlaw7.TransferCopies", spec := "transferCopies", inPlace := ["internal/abi.NoEscape", "internal/bytealg.abigen_runtime_cmpstring", "internal/reflectlite.ValueOf", "(internal/reflectlite.Value).Type", "(internal/reflectlite.Value).IsNil", "internal/reflectlite.TypeOf", "(internal/reflectlite.Value).Elem", "(internal/reflectlite.Value).Set"], unfollowed := true, recurses := true, named := ["errors.errorType"], plainKeys := false, apart := false, laid := [("errors.errorType", laid_errors_errorType)], narrowed := true }
def TransferCopiesUptoSaid : Prop := transferCopiesUptoRow.holds Tryz.pinned (OpenSpec.upto transferCopiesSpec)

end Rows
end Go.Proofs.YtpcmilhjpmlbpaaGreatDoor
