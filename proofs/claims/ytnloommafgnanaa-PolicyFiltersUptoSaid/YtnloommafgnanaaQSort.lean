/-
  DERIVED: THE SHELF's CONTRACTS AT THIS DUMP, IN PLAIN WORDS (tools/lay-plain.mjs out of 'YtnloommafgnanaaZShelfB.lean', which tools/lay-shelf.mjs wrote): THE SAME DECLARATIONS UNDER THE SAME NAMES: 'import', 'namespace', 'open', 'def', 'theorem' AND NOTHING ELSE: no command of the shelf's: FOR A HAND-IN. Each laying: the table of numbers ('.._ren') and one theorem, a field a fact of the dump's own or the kernel's comparison; each contract: ONE APPLICATION.
-/
import Derived.Test.YtnloommafgnanaaProg
import Derived.Test.YtnloommafgnanaaQZoneA
import Derived.Test.YtnloommafgnanaaQZoneC
import Derived.Test.YtnloommafgnanaaQDrawn
import Derived.Shelf.SlGeneric
import Derived.Shelf.SlicesE.Clone
import Derived.Ground.SlsfProg
import Derived.Ground.SlgnProg
import Derived.Sort.OwnSorted
namespace Go.Proofs
open Go.Shelf
def Try.cloneR_ren : Go.Shelf.Ren := ⟨fun | 41 => 28 | n => n, fun | 22 => 25 | 23 => 41 | 4 => 4 | n => n, fun | n => n⟩
theorem Try.cloneR : Go.Proofs.SlLaysE0.n41 Try.prog Try.cloneR_ren := {
  mixed := by kernel_rfl
  f41 := ⟨Try.f28.name, by decide, Try.func28.trans (congrArg some (by kernel_rfl))⟩
  t4 := Try.underlying4
  a4 := Try.isAgg4
  z4 := Try.sizeOf4
  v4 := Try.zeroValue4
  t22 := Try.underlying25
  a22 := Try.isAgg25
  z22 := Try.sizeOf25
  v22 := Try.zeroValue25 }
def Try.cloneQ_ren : Go.Shelf.Ren := ⟨fun | 41 => 27 | n => n, fun | 22 => 24 | 23 => 57 | 4 => 4 | n => n, fun | n => n⟩
theorem Try.cloneQ : Go.Proofs.SlLaysE0.n41 Try.prog Try.cloneQ_ren := {
  mixed := by kernel_rfl
  f41 := ⟨Try.f27.name, by decide, Try.func27.trans (congrArg some (by kernel_rfl))⟩
  t4 := Try.underlying4
  a4 := Try.isAgg4
  z4 := Try.sizeOf4
  v4 := Try.zeroValue4
  t22 := Try.underlying24
  a22 := Try.isAgg24
  z22 := Try.sizeOf24
  v22 := Try.zeroValue24 }
end Go.Proofs

/-
  slices.SortFunc of records by zone.order, and of names by name.Compare.
-/
namespace Go.Proofs.Ytnloommafgnanaa
open Go.RowKit Go.Shelf Go.Sort Go.Proofs.Ytnloommafgnanaa.nm Go.Proofs.Ytnloommafgnanaa.od

instance : Inhabited RecN := ⟨⟨⟨⟨#[0]⟩, 0, 0, 0, ⟨#[]⟩⟩, by kernel_rfl⟩⟩
instance : Inhabited Nm := ⟨⟨⟨#[0]⟩, by kernel_rfl⟩⟩

/-! ### Between the two vocabularies -/
theorem recsC_at (l : List Rec) (t : Nat) (ht : t < l.length * 5) : (recsC l)[t]? = (recC (l[t / 5]'(by omega)))[t % 5]? := by
  have h5 : t % 5 < (recC (l[t / 5]'(by omega))).length := by show t % 5 < 5; omega
  have := recsC_get l (t / 5) (by omega) (t % 5) _ (List.getElem?_eq_getElem h5)
  rw [List.getElem?_eq_getElem h5, ← this]
  congr 1
  omega
/-- A sorted list of the same records. -/
def SortedOf (l L : List Rec) : Prop := L.Perm l ∧ L.Pairwise (fun a b => zn.orderI a b ≤ 0)

/-! ### Names -/
end Go.Proofs.Ytnloommafgnanaa
