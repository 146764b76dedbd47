/-
  No cell of these rows narrows 'for every input' (looked for: loops, veiled, ifaces, maps, wideKeys, modest, calm, conditions, laid).
  DERIVED. THE GIVEN ROWS OF THIS SEAT. 8 by the template 'for every input the law returns true; each argument reads behind the call as it read before'; 0 by the template 'total and deterministic' (their statements: YtpjoaghnciomeaaGreatTotals.lean).
  GIVEN WITH THE SEED: the statements are not yours to turn. If you find one false, say at which input.
  Laid BY PROGRAM, IN A SANDBOX (cutbox-rows.mjs): the forced cells as the released guide's own fill.sh prints them over the translation 10d743a32d9a44d4… (all of the seat's roots in one cut). By AI agents, Wed Nov 11 2026. No macro, syntax, notation, axiom, sorry.
-/
import Derived.Test.YtpjoaghnciomeaaGreatChecked
import GoSem.Claim
import GoSem.ClaimJoined
import GoSem.ClaimMapViews
import Derived.JoinedTies
import Derived.KernelRfl
namespace Go.Proofs.YtpjoaghnciomeaaGreat
/- THE CELL 'sum', in the pinned program and in every row, IS THE sha256 OF THE DUMP (.gsa) THAT YtpjoaghnciomeaaGreatProg.lean LOADS. Nothing in Lean hashes anything: it is a label: what it is worth is what the hold of that sum in a sandbox is worth. -/
noncomputable def Tryz.pinned : Pinned := { name := "ytpjoaghnciomeaagreat", sum := "10d743a32d9a44d4b64b4f45e79d3ad5c2af2e4602c177b3056f740f2a7e2ed8", checked := Tryz.checked }
namespace Rows
def none {H : Type} : Left H := { results := [], args := [] }

/-- 'gazetteerlaw3.ZoneMakes': WHATEVER THE INPUT: true; the input reads as it did. -/
def zoneMakesSpec : ChangeSpec := { name := "zoneMakes", fn := fun _ => fun
  | [d1, d2] => { results := [.lit (.bool true)], args := [d1, d2] }
  | _ => none }
def zoneMakesRow : OpenClaim := { program := "ytpjoaghnciomeaagreat", sum := "10d743a32d9a44d4b64b4f45e79d3ad5c2af2e4602c177b3056f740f2a7e2ed8", func := "gazetteer/gazetteerlaw3.ZoneMakes", spec := "zoneMakes", inPlace := ["internal/abi.NoEscape", "internal/bytealg.abigen_runtime_cmpstring"], unfollowed := true, recurses := true, plainKeys := false, apart := false }
def ZoneMakesSaid : Prop := zoneMakesRow.holds Tryz.pinned (OpenSpec.ofChange zoneMakesSpec)

/-- ITS FALSE NEIGHBOUR: 'it returns false'. Refute it at one input. -/
def zoneMakesWrong : ChangeSpec := { name := "zoneMakes", fn := fun _ => fun
  | [d1, d2] => { results := [.lit (.bool false)], args := [d1, d2] }
  | _ => none }
def ZoneMakesWrongFalsely : Prop := zoneMakesRow.holds Tryz.pinned (OpenSpec.ofChange zoneMakesWrong)

/-- 'gazetteerlaw3.ZoneSets': WHATEVER THE INPUT: true; the input reads as it did. -/
def zoneSetsSpec : ChangeSpec := { name := "zoneSets", fn := fun _ => fun
  | [d1, d2, d3] => { results := [.lit (.bool true)], args := [d1, d2, d3] }
  | _ => none }
def zoneSetsRow : OpenClaim := { program := "ytpjoaghnciomeaagreat", sum := "10d743a32d9a44d4b64b4f45e79d3ad5c2af2e4602c177b3056f740f2a7e2ed8", func := "gazetteer/gazetteerlaw3.ZoneSets", spec := "zoneSets", inPlace := ["internal/abi.NoEscape", "internal/bytealg.abigen_runtime_cmpstring"], unfollowed := true, recurses := true, plainKeys := false, apart := false }
def ZoneSetsSaid : Prop := zoneSetsRow.holds Tryz.pinned (OpenSpec.ofChange zoneSetsSpec)

/-- ITS FALSE NEIGHBOUR: 'it returns false'. Refute it at one input. -/
def zoneSetsWrong : ChangeSpec := { name := "zoneSets", fn := fun _ => fun
  | [d1, d2, d3] => { results := [.lit (.bool false)], args := [d1, d2, d3] }
  | _ => none }
def ZoneSetsWrongFalsely : Prop := zoneSetsRow.holds Tryz.pinned (OpenSpec.ofChange zoneSetsWrong)

/-- 'gazetteerlaw3.ZoneFinds': WHATEVER THE INPUT: true; the input reads as it did. -/
def zoneFindsSpec : ChangeSpec := { name := "zoneFinds", fn := fun _ => fun
  | [d1, d2, d3] => { results := [.lit (.bool true)], args := [d1, d2, d3] }
  | _ => none }
def zoneFindsRow : OpenClaim := { program := "ytpjoaghnciomeaagreat", sum := "10d743a32d9a44d4b64b4f45e79d3ad5c2af2e4602c177b3056f740f2a7e2ed8", func := "gazetteer/gazetteerlaw3.ZoneFinds", spec := "zoneFinds", inPlace := ["internal/abi.NoEscape", "internal/bytealg.abigen_runtime_cmpstring"], unfollowed := true, recurses := true, plainKeys := false, apart := false }
def ZoneFindsSaid : Prop := zoneFindsRow.holds Tryz.pinned (OpenSpec.ofChange zoneFindsSpec)

/-- ITS FALSE NEIGHBOUR: 'it returns false'. Refute it at one input. -/
def zoneFindsWrong : ChangeSpec := { name := "zoneFinds", fn := fun _ => fun
  | [d1, d2, d3] => { results := [.lit (.bool false)], args := [d1, d2, d3] }
  | _ => none }
def ZoneFindsWrongFalsely : Prop := zoneFindsRow.holds Tryz.pinned (OpenSpec.ofChange zoneFindsWrong)

/-- 'gazetteerlaw3.ZoneGives': WHATEVER THE INPUT: true; the input reads as it did. -/
def zoneGivesSpec : ChangeSpec := { name := "zoneGives", fn := fun _ => fun
  | [d1, d2, d3, d4] => { results := [.lit (.bool true)], args := [d1, d2, d3, d4] }
  | _ => none }
def zoneGivesRow : OpenClaim := { program := "ytpjoaghnciomeaagreat", sum := "10d743a32d9a44d4b64b4f45e79d3ad5c2af2e4602c177b3056f740f2a7e2ed8", func := "gazetteer/gazetteerlaw3.ZoneGives", spec := "zoneGives", inPlace := ["internal/abi.NoEscape", "internal/bytealg.abigen_runtime_cmpstring"], unfollowed := true, recurses := true, plainKeys := false, apart := false }
def ZoneGivesSaid : Prop := zoneGivesRow.holds Tryz.pinned (OpenSpec.ofChange zoneGivesSpec)

/-- ITS FALSE NEIGHBOUR: 'it returns false'. Refute it at one input. -/
def zoneGivesWrong : ChangeSpec := { name := "zoneGives", fn := fun _ => fun
  | [d1, d2, d3, d4] => { results := [.lit (.bool false)], args := [d1, d2, d3, d4] }
  | _ => none }
def ZoneGivesWrongFalsely : Prop := zoneGivesRow.holds Tryz.pinned (OpenSpec.ofChange zoneGivesWrong)

/-- 'gazetteerlaw3.ZoneAbsent': WHATEVER THE INPUT: true; the input reads as it did. -/
def zoneAbsentSpec : ChangeSpec := { name := "zoneAbsent", fn := fun _ => fun
  | [d1, d2, d3, d4] => { results := [.lit (.bool true)], args := [d1, d2, d3, d4] }
  | _ => none }
def zoneAbsentRow : OpenClaim := { program := "ytpjoaghnciomeaagreat", sum := "10d743a32d9a44d4b64b4f45e79d3ad5c2af2e4602c177b3056f740f2a7e2ed8", func := "gazetteer/gazetteerlaw3.ZoneAbsent", spec := "zoneAbsent", inPlace := ["internal/abi.NoEscape", "internal/bytealg.abigen_runtime_cmpstring"], unfollowed := true, recurses := true, plainKeys := false, apart := false }
def ZoneAbsentSaid : Prop := zoneAbsentRow.holds Tryz.pinned (OpenSpec.ofChange zoneAbsentSpec)

/-- ITS FALSE NEIGHBOUR: 'it returns false'. Refute it at one input. -/
def zoneAbsentWrong : ChangeSpec := { name := "zoneAbsent", fn := fun _ => fun
  | [d1, d2, d3, d4] => { results := [.lit (.bool false)], args := [d1, d2, d3, d4] }
  | _ => none }
def ZoneAbsentWrongFalsely : Prop := zoneAbsentRow.holds Tryz.pinned (OpenSpec.ofChange zoneAbsentWrong)

/-- 'gazetteerlaw3.ZoneRowed': WHATEVER THE INPUT: true; the input reads as it did. -/
def zoneRowedSpec : ChangeSpec := { name := "zoneRowed", fn := fun _ => fun
  | [d1, d2] => { results := [.lit (.bool true)], args := [d1, d2] }
  | _ => none }
def zoneRowedRow : OpenClaim := { program := "ytpjoaghnciomeaagreat", sum := "10d743a32d9a44d4b64b4f45e79d3ad5c2af2e4602c177b3056f740f2a7e2ed8", func := "gazetteer/gazetteerlaw3.ZoneRowed", spec := "zoneRowed", inPlace := ["internal/abi.NoEscape", "internal/bytealg.abigen_runtime_cmpstring"], unfollowed := true, recurses := true, plainKeys := false, apart := false }
def ZoneRowedSaid : Prop := zoneRowedRow.holds Tryz.pinned (OpenSpec.ofChange zoneRowedSpec)

/-- ITS FALSE NEIGHBOUR: 'it returns false'. Refute it at one input. -/
def zoneRowedWrong : ChangeSpec := { name := "zoneRowed", fn := fun _ => fun
  | [d1, d2] => { results := [.lit (.bool false)], args := [d1, d2] }
  | _ => none }
def ZoneRowedWrongFalsely : Prop := zoneRowedRow.holds Tryz.pinned (OpenSpec.ofChange zoneRowedWrong)

/-- 'gazetteerlaw3.ZoneLints': WHATEVER THE INPUT: true; the input reads as it did. -/
def zoneLintsSpec : ChangeSpec := { name := "zoneLints", fn := fun _ => fun
  | [d1, d2] => { results := [.lit (.bool true)], args := [d1, d2] }
  | _ => none }
def zoneLintsRow : OpenClaim := { program := "ytpjoaghnciomeaagreat", sum := "10d743a32d9a44d4b64b4f45e79d3ad5c2af2e4602c177b3056f740f2a7e2ed8", func := "gazetteer/gazetteerlaw3.ZoneLints", spec := "zoneLints", inPlace := ["internal/abi.NoEscape", "internal/bytealg.abigen_runtime_cmpstring"], unfollowed := true, recurses := true, plainKeys := false, apart := false }
def ZoneLintsSaid : Prop := zoneLintsRow.holds Tryz.pinned (OpenSpec.ofChange zoneLintsSpec)

/-- ITS FALSE NEIGHBOUR: 'it returns false'. Refute it at one input. -/
def zoneLintsWrong : ChangeSpec := { name := "zoneLints", fn := fun _ => fun
  | [d1, d2] => { results := [.lit (.bool false)], args := [d1, d2] }
  | _ => none }
def ZoneLintsWrongFalsely : Prop := zoneLintsRow.holds Tryz.pinned (OpenSpec.ofChange zoneLintsWrong)

/-- 'gazetteerlaw3.ZoneTurned': WHATEVER THE INPUT: true; the input reads as it did. -/
def zoneTurnedSpec : ChangeSpec := { name := "zoneTurned", fn := fun _ => fun
  | [d1, d2, d3, d4, d5] => { results := [.lit (.bool true)], args := [d1, d2, d3, d4, d5] }
  | _ => none }
def zoneTurnedRow : OpenClaim := { program := "ytpjoaghnciomeaagreat", sum := "10d743a32d9a44d4b64b4f45e79d3ad5c2af2e4602c177b3056f740f2a7e2ed8", func := "gazetteer/gazetteerlaw3.ZoneTurned", spec := "zoneTurned", inPlace := ["internal/abi.NoEscape", "internal/bytealg.abigen_runtime_cmpstring"], unfollowed := true, recurses := true, plainKeys := false, apart := false }
def ZoneTurnedSaid : Prop := zoneTurnedRow.holds Tryz.pinned (OpenSpec.ofChange zoneTurnedSpec)

/-- ITS FALSE NEIGHBOUR: 'it returns false'. Refute it at one input. -/
def zoneTurnedWrong : ChangeSpec := { name := "zoneTurned", fn := fun _ => fun
  | [d1, d2, d3, d4, d5] => { results := [.lit (.bool false)], args := [d1, d2, d3, d4, d5] }
  | _ => none }
def ZoneTurnedWrongFalsely : Prop := zoneTurnedRow.holds Tryz.pinned (OpenSpec.ofChange zoneTurnedWrong)

/- THE SECOND FORM. 'bulk': how many values and letters a reading holds, each counted each time it is reached (what is shared counts as often as it is met; a slice's spare places count too). A statement '..UptoSaid' is the law's where the arguments, and the package variables that the reading takes, are together of bulk at most 1048576: NARROWER than '..Said'. Prove '..Said' where nothing that the law and all that it calls make is longer than what came in: it says more and counts as full. Else prove '..UptoSaid'. A law counts once. -/
mutual
def uptoBulk {H : Type} : DataW H → Nat
  | .lit (.string bytes) => bytes.length + 1
  | .lit _ => 1
  | .nil => 1
  | .ptr d => uptoBulk d + 1
  | .slice elems spare => uptoBulkAll elems + uptoBulkAll spare + 1
  | .agg parts => uptoBulkAll parts + 1
  | .iface _ d => uptoBulk d + 1
  | .map entries => uptoBulkEntries entries + 1
  | .held _ => 1
def uptoBulkAll {H : Type} : List (DataW H) → Nat
  | [] => 0
  | d :: r => uptoBulk d + uptoBulkAll r
def uptoBulkEntries {H : Type} : List (Lit × DataW H) → Nat
  | [] => 0
  | x :: r => uptoBulkEntry x + uptoBulkEntries r
def uptoBulkEntry {H : Type} : Lit × DataW H → Nat
  | (.string bytes, d) => bytes.length + uptoBulk d + 1
  | (_, d) => uptoBulk d + 1
 end
def uptoSmall : (H : Type) → List (DataW H) → Bool := fun _ ds => decide (uptoBulkAll ds ≤ 1048576)
def OpenSpec.upto (s : _root_.Go.ChangeSpec) : _root_.Go.OpenSpec := { _root_.Go.OpenSpec.ofChange s with cond := some uptoSmall }

/-- 'gazetteerlaw3.ZoneMakes', WHERE WHAT IT READS IS OF BULK AT MOST 1048576: true; the input reads as it did. -/
def zoneMakesUptoRow : OpenClaim := { program := "ytpjoaghnciomeaagreat", sum := "10d743a32d9a44d4b64b4f45e79d3ad5c2af2e4602c177b3056f740f2a7e2ed8", func := "gazetteer/gazetteerlaw3.ZoneMakes", spec := "zoneMakes", inPlace := ["internal/abi.NoEscape", "internal/bytealg.abigen_runtime_cmpstring"], unfollowed := true, recurses := true, plainKeys := false, apart := false, narrowed := true }
def ZoneMakesUptoSaid : Prop := zoneMakesUptoRow.holds Tryz.pinned (OpenSpec.upto zoneMakesSpec)

/-- 'gazetteerlaw3.ZoneSets', WHERE WHAT IT READS IS OF BULK AT MOST 1048576: true; the input reads as it did. -/
def zoneSetsUptoRow : OpenClaim := { program := "ytpjoaghnciomeaagreat", sum := "10d743a32d9a44d4b64b4f45e79d3ad5c2af2e4602c177b3056f740f2a7e2ed8", func := "gazetteer/gazetteerlaw3.ZoneSets", spec := "zoneSets", inPlace := ["internal/abi.NoEscape", "internal/bytealg.abigen_runtime_cmpstring"], unfollowed := true, recurses := true, plainKeys := false, apart := false, narrowed := true }
def ZoneSetsUptoSaid : Prop := zoneSetsUptoRow.holds Tryz.pinned (OpenSpec.upto zoneSetsSpec)

/-- 'gazetteerlaw3.ZoneFinds', WHERE WHAT IT READS IS OF BULK AT MOST 1048576: true; the input reads as it did. -/
def zoneFindsUptoRow : OpenClaim := { program := "ytpjoaghnciomeaagreat", sum := "10d743a32d9a44d4b64b4f45e79d3ad5c2af2e4602c177b3056f740f2a7e2ed8", func := "gazetteer/gazetteerlaw3.ZoneFinds", spec := "zoneFinds", inPlace := ["internal/abi.NoEscape", "internal/bytealg.abigen_runtime_cmpstring"], unfollowed := true, recurses := true, plainKeys := false, apart := false, narrowed := true }
def ZoneFindsUptoSaid : Prop := zoneFindsUptoRow.holds Tryz.pinned (OpenSpec.upto zoneFindsSpec)

/-- 'gazetteerlaw3.ZoneGives', WHERE WHAT IT READS IS OF BULK AT MOST 1048576: true; the input reads as it did. -/
def zoneGivesUptoRow : OpenClaim := { program := "ytpjoaghnciomeaagreat", sum := "10d743a32d9a44d4b64b4f45e79d3ad5c2af2e4602c177b3056f740f2a7e2ed8", func := "gazetteer/gazetteerlaw3.ZoneGives", spec := "zoneGives", inPlace := ["internal/abi.NoEscape", "internal/bytealg.abigen_runtime_cmpstring"], unfollowed := true, recurses := true, plainKeys := false, apart := false, narrowed := true }
def ZoneGivesUptoSaid : Prop := zoneGivesUptoRow.holds Tryz.pinned (OpenSpec.upto zoneGivesSpec)

/-- 'gazetteerlaw3.ZoneAbsent', WHERE WHAT IT READS IS OF BULK AT MOST 1048576: true; the input reads as it did. -/
def zoneAbsentUptoRow : OpenClaim := { program := "ytpjoaghnciomeaagreat", sum := "10d743a32d9a44d4b64b4f45e79d3ad5c2af2e4602c177b3056f740f2a7e2ed8", func := "gazetteer/gazetteerlaw3.ZoneAbsent", spec := "zoneAbsent", inPlace := ["internal/abi.NoEscape", "internal/bytealg.abigen_runtime_cmpstring"], unfollowed := true, recurses := true, plainKeys := false, apart := false, narrowed := true }
def ZoneAbsentUptoSaid : Prop := zoneAbsentUptoRow.holds Tryz.pinned (OpenSpec.upto zoneAbsentSpec)

/-- 'gazetteerlaw3.ZoneRowed', WHERE WHAT IT READS IS OF BULK AT MOST 1048576: true; the input reads as it did. -/
def zoneRowedUptoRow : OpenClaim := { program := "ytpjoaghnciomeaagreat", sum := "10d743a32d9a44d4b64b4f45e79d3ad5c2af2e4602c177b3056f740f2a7e2ed8", func := "gazetteer/gazetteerlaw3.ZoneRowed", spec := "zoneRowed", inPlace := ["internal/abi.NoEscape", "internal/bytealg.abigen_runtime_cmpstring"], unfollowed := true, recurses := true, plainKeys := false, apart := false, narrowed := true }
def ZoneRowedUptoSaid : Prop := zoneRowedUptoRow.holds Tryz.pinned (OpenSpec.upto zoneRowedSpec)

/-- 'gazetteerlaw3.ZoneLints', WHERE WHAT IT READS IS OF BULK AT MOST 1048576: true; the input reads as it did. -/
def zoneLintsUptoRow : OpenClaim := { program := "ytpjoaghnciomeaagreat", sum := "10d743a32d9a44d4b64b4f45e79d3ad5c2af2e4602c177b3056f740f2a7e2ed8", func := "gazetteer/gazetteerlaw3.ZoneLints", spec := "zoneLints", inPlace := ["internal/abi.NoEscape", "internal/bytealg.abigen_runtime_cmpstring"], unfollowed := true, recurses := true, plainKeys := false, apart := false, narrowed := true }
def ZoneLintsUptoSaid : Prop := zoneLintsUptoRow.holds Tryz.pinned (OpenSpec.upto zoneLintsSpec)

/-- 'gazetteerlaw3.ZoneTurned', WHERE WHAT IT READS IS OF BULK AT MOST 1048576: true; the input reads as it did. -/
def zoneTurnedUptoRow : OpenClaim := { program := "ytpjoaghnciomeaagreat", sum := "10d743a32d9a44d4b64b4f45e79d3ad5c2af2e4602c177b3056f740f2a7e2ed8", func := "gazetteer/gazetteerlaw3.ZoneTurned", spec := "zoneTurned", inPlace := ["internal/abi.NoEscape", "internal/bytealg.abigen_runtime_cmpstring"], unfollowed := true, recurses := true, plainKeys := false, apart := false, narrowed := true }
def ZoneTurnedUptoSaid : Prop := zoneTurnedUptoRow.holds Tryz.pinned (OpenSpec.upto zoneTurnedSpec)

end Rows
end Go.Proofs.YtpjoaghnciomeaaGreat
