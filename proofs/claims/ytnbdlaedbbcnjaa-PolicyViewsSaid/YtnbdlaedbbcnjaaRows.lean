/-
  No cell of these rows narrows 'for every input' (looked for: loops, veiled, ifaces, maps, wideKeys, modest, calm, conditions, laid).
  DERIVED. THE GIVEN ROWS OF THIS SEAT. 3 by the template 'for every input the law returns true; each argument reads behind the call as it read before'; 0 by the template 'total and deterministic' (their statements: YtnbdlaedbbcnjaaTotals.lean).
  GIVEN WITH THE SEED: the statements are not yours to turn. If you find one false, say at which input.
  Laid BY PROGRAM, IN A SANDBOX (cutbox-rows.mjs): the forced cells as the released guide's own fill.sh prints them over the translation 1372799e9ec520ed… (all of the seat's roots in one cut). By AI agents, Wed Nov 11 2026. No macro, syntax, notation, axiom, sorry.
-/
import Derived.Test.YtnbdlaedbbcnjaaChecked
import GoSem.Claim
import GoSem.ClaimJoined
import GoSem.ClaimMapViews
import Derived.JoinedTies
import Derived.KernelRfl
namespace Go.Proofs.Ytnbdlaedbbcnjaa
/- THE CELL 'sum', in the pinned program and in every row, IS THE sha256 OF THE DUMP (.gsa) THAT YtnbdlaedbbcnjaaProg.lean LOADS. Nothing in Lean hashes anything: it is a label: what it is worth is what the hold of that sum in a sandbox is worth. -/
noncomputable def Try.pinned : Pinned := { name := "ytnbdlaedbbcnjaa", sum := "1372799e9ec520ed333ced09f9f6a1371f396a481d73027b03315ba5b1fa8820", checked := Try.checked }
namespace Rows
def none {H : Type} : Left H := { results := [], args := [] }

/-- 'gazetteerlaw11.PolicyLimits': WHATEVER THE INPUT: true; the input reads as it did. -/
def policyLimitsSpec : ChangeSpec := { name := "policyLimits", fn := fun _ => fun
  | [d1, d2, d3] => { results := [.lit (.bool true)], args := [d1, d2, d3] }
  | _ => none }
def policyLimitsRow : OpenClaim := { program := "ytnbdlaedbbcnjaa", sum := "1372799e9ec520ed333ced09f9f6a1371f396a481d73027b03315ba5b1fa8820", func := "gazetteer/gazetteerlaw11.PolicyLimits", spec := "policyLimits", apart := false }
def PolicyLimitsSaid : Prop := policyLimitsRow.holds Try.pinned (OpenSpec.ofChange policyLimitsSpec)

/-- ITS FALSE NEIGHBOUR: 'it returns false'. Refute it at one input. -/
def policyLimitsWrong : ChangeSpec := { name := "policyLimits", fn := fun _ => fun
  | [d1, d2, d3] => { results := [.lit (.bool false)], args := [d1, d2, d3] }
  | _ => none }
def PolicyLimitsWrongFalsely : Prop := policyLimitsRow.holds Try.pinned (OpenSpec.ofChange policyLimitsWrong)

/-- 'gazetteerlaw11.PolicyFair': WHATEVER THE INPUT: true; the input reads as it did. -/
def policyFairSpec : ChangeSpec := { name := "policyFair", fn := fun _ => fun
  | [d1, d2, d3, d4] => { results := [.lit (.bool true)], args := [d1, d2, d3, d4] }
  | _ => none }
def policyFairRow : OpenClaim := { program := "ytnbdlaedbbcnjaa", sum := "1372799e9ec520ed333ced09f9f6a1371f396a481d73027b03315ba5b1fa8820", func := "gazetteer/gazetteerlaw11.PolicyFair", spec := "policyFair", apart := false }
def PolicyFairSaid : Prop := policyFairRow.holds Try.pinned (OpenSpec.ofChange policyFairSpec)

/-- ITS FALSE NEIGHBOUR: 'it returns false'. Refute it at one input. -/
def policyFairWrong : ChangeSpec := { name := "policyFair", fn := fun _ => fun
  | [d1, d2, d3, d4] => { results := [.lit (.bool false)], args := [d1, d2, d3, d4] }
  | _ => none }
def PolicyFairWrongFalsely : Prop := policyFairRow.holds Try.pinned (OpenSpec.ofChange policyFairWrong)

/-- 'gazetteerlaw11.PolicyViews': WHATEVER THE INPUT: true; the input reads as it did. -/
def policyViewsSpec : ChangeSpec := { name := "policyViews", fn := fun _ => fun
  | [d1, d2, d3] => { results := [.lit (.bool true)], args := [d1, d2, d3] }
  | _ => none }
def policyViewsRow : OpenClaim := { program := "ytnbdlaedbbcnjaa", sum := "1372799e9ec520ed333ced09f9f6a1371f396a481d73027b03315ba5b1fa8820", func := "gazetteer/gazetteerlaw11.PolicyViews", spec := "policyViews", unfollowed := true, recurses := true, apart := false }
def PolicyViewsSaid : Prop := policyViewsRow.holds Try.pinned (OpenSpec.ofChange policyViewsSpec)

/-- ITS FALSE NEIGHBOUR: 'it returns false'. Refute it at one input. -/
def policyViewsWrong : ChangeSpec := { name := "policyViews", fn := fun _ => fun
  | [d1, d2, d3] => { results := [.lit (.bool false)], args := [d1, d2, d3] }
  | _ => none }
def PolicyViewsWrongFalsely : Prop := policyViewsRow.holds Try.pinned (OpenSpec.ofChange policyViewsWrong)

/- THE SECOND FORM. 'bulk': how many values and letters a reading holds, each counted each time it is reached (what is shared counts as often as it is met; a slice's spare places count too). A statement '..UptoSaid' is the law's where the arguments, and the package variables that the reading takes, are together of bulk at most 1048576: NARROWER than '..Said'. Prove '..Said' where nothing that the law and all that it calls make is longer than what came in: it says more and counts as full. Else prove '..UptoSaid'. A law counts once. -/
mutual
def uptoBulk {H : Type} : DataW H → Nat
  | .lit (.string bytes) => bytes.length + 1
  | .lit _ => 1
  | .nil => 1
  | .ptr d => uptoBulk d + 1
  | .slice elems spare => uptoBulkAll elems + uptoBulkAll spare + 1
  | .agg parts => uptoBulkAll parts + 1
  | .iface _ d => uptoBulk d + 1
  | .map entries => uptoBulkEntries entries + 1
  | .held _ => 1
def uptoBulkAll {H : Type} : List (DataW H) → Nat
  | [] => 0
  | d :: r => uptoBulk d + uptoBulkAll r
def uptoBulkEntries {H : Type} : List (Lit × DataW H) → Nat
  | [] => 0
  | x :: r => uptoBulkEntry x + uptoBulkEntries r
def uptoBulkEntry {H : Type} : Lit × DataW H → Nat
  | (.string bytes, d) => bytes.length + uptoBulk d + 1
  | (_, d) => uptoBulk d + 1
 end
def uptoSmall : (H : Type) → List (DataW H) → Bool := fun _ ds => decide (uptoBulkAll ds ≤ 1048576)
def OpenSpec.upto (s : _root_.Go.ChangeSpec) : _root_.Go.OpenSpec := { _root_.Go.OpenSpec.ofChange s with cond := some uptoSmall }

/-- 'gazetteerlaw11.PolicyLimits', WHERE WHAT IT READS IS OF BULK AT MOST 1048576: true; the input reads as it did. -/
def policyLimitsUptoRow : OpenClaim := { program := "ytnbdlaedbbcnjaa", sum := "1372799e9ec520ed333ced09f9f6a1371f396a481d73027b03315ba5b1fa8820", func := "gazetteer/gazetteerlaw11.PolicyLimits", spec := "policyLimits", apart := false, narrowed := true }
def PolicyLimitsUptoSaid : Prop := policyLimitsUptoRow.holds Try.pinned (OpenSpec.upto policyLimitsSpec)

/-- 'gazetteerlaw11.PolicyFair', WHERE WHAT IT READS IS OF BULK AT MOST 1048576: true; the input reads as it did. -/
def policyFairUptoRow : OpenClaim := { program := "ytnbdlaedbbcnjaa", sum := "1372799e9ec520ed333ced09f9f6a1371f396a481d73027b03315ba5b1fa8820", func := "gazetteer/gazetteerlaw11.PolicyFair", spec := "policyFair", apart := false, narrowed := true }
def PolicyFairUptoSaid : Prop := policyFairUptoRow.holds Try.pinned (OpenSpec.upto policyFairSpec)

/-- 'gazetteerlaw11.PolicyViews', WHERE WHAT IT READS IS OF BULK AT MOST 1048576: true; the input reads as it did. -/
def policyViewsUptoRow : OpenClaim := { program := "ytnbdlaedbbcnjaa", sum := "1372799e9ec520ed333ced09f9f6a1371f396a481d73027b03315ba5b1fa8820", func := "gazetteer/gazetteerlaw11.PolicyViews", spec := "policyViews", unfollowed := true, recurses := true, apart := false, narrowed := true }
def PolicyViewsUptoSaid : Prop := policyViewsUptoRow.holds Try.pinned (OpenSpec.upto policyViewsSpec)

end Rows
end Go.Proofs.Ytnbdlaedbbcnjaa
