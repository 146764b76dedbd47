/-
  DERIVED: THE SHELF's CONTRACTS AT THIS DUMP, IN PLAIN WORDS (tools/lay-plain.mjs out of 'YtnloommafgnanaaZShelfB.lean', which tools/lay-shelf.mjs wrote): THE SAME DECLARATIONS UNDER THE SAME NAMES: 'import', 'namespace', 'open', 'def', 'theorem' AND NOTHING ELSE: no command of the shelf's: FOR A HAND-IN. Each laying: the table of numbers ('.._ren') and one theorem, a field a fact of the dump's own or the kernel's comparison; each contract: ONE APPLICATION.
-/
import Derived.Test.YtnloommafgnanaaProg
import Derived.Test.YtnloommafgnanaaQZoneA
import Derived.Test.YtnloommafgnanaaQZoneC
import Derived.Test.YtnloommafgnanaaQDrawn
import Derived.Shelf.SlGeneric
import Derived.Shelf.SlicesE.Clone
import Derived.Ground.SlsfProg
import Derived.Ground.SlgnProg
import Derived.Sort.OwnSorted
namespace Go.Proofs
open Go.Shelf
def Try.cloneR_ren : Go.Shelf.Ren := ⟨fun | 41 => 28 | n => n, fun | 22 => 25 | 23 => 41 | 4 => 4 | n => n, fun | n => n⟩
theorem Try.cloneR : Go.Proofs.SlLaysE0.n41 Try.prog Try.cloneR_ren := {
  mixed := by kernel_rfl
  f41 := ⟨Try.f28.name, by decide, Try.func28.trans (congrArg some (by kernel_rfl))⟩
  t4 := Try.underlying4
  a4 := Try.isAgg4
  z4 := Try.sizeOf4
  v4 := Try.zeroValue4
  t22 := Try.underlying25
  a22 := Try.isAgg25
  z22 := Try.sizeOf25
  v22 := Try.zeroValue25 }
end Go.Proofs

/-
  slices.SortFunc of records by zone.order, and of names by name.Compare.
-/
namespace Go.Proofs.Ytnloommafgnanaa
open Go.RowKit Go.Shelf Go.Sort Go.Proofs.Ytnloommafgnanaa.nm Go.Proofs.Ytnloommafgnanaa.od

instance : Inhabited RecN := ⟨⟨⟨⟨#[0]⟩, 0, 0, 0, ⟨#[]⟩⟩, by kernel_rfl⟩⟩
instance : Inhabited Nm := ⟨⟨⟨#[0]⟩, by kernel_rfl⟩⟩

/-! ### Between the two vocabularies -/
theorem heap_putF {w : World} {g n : Nat} {os : Array Obj} {cur : Array Value} {e : TypeId} {fr : Nat × Nat} (F : Array Value) (hb : w.heap[g]? = some (.cells cur e fr)) :
    (grow (putRow id (Sort.ahead w n) g 0 F) os).heap[g]? = some (.cells (putCells id 0 F cur) e fr) := by
  have hg : g < w.heap.size := (Array.getElem?_eq_some_iff.1 hb).1
  rw [heap_grow_old _ _ (by simpa using hg)]
  simp [putRow, mapBlock, Sort.ahead, Array.getElem?_modify, hb, onCells]
theorem grownBy_putF {w : World} {g n : Nat} {os : Array Obj} (F : Array Value) : w.grownBy (grow (putRow id (Sort.ahead w n) g 0 F) os) (some g) := by
  refine ⟨rfl, rfl, rfl, by simp, fun k hk hne => ?_⟩
  rw [heap_grow_old _ _ (by simpa using hk)]
  have : g ≠ k := fun e => hne (by rw [e])
  simp [putRow, mapBlock, Sort.ahead, Array.getElem?_modify, this]
theorem take_putF (cur F : Array Value) (h : F.size ≤ cur.size) : (putCells id 0 F cur).toList.take F.size = F.toList := by
  apply List.ext_getElem?
  intro j
  by_cases hj : j < F.size
  · rw [List.getElem?_take_of_lt hj, Array.getElem?_toList]
    simp [putCells, hj, show j < cur.size by omega]
  · rw [List.getElem?_take_eq_none (by omega), List.getElem?_eq_none (by simp; omega)]
theorem ownsRow_putF {w : World} {base g cap n k size : Nat} {e : TypeId} {os : Array Obj} {xs : List Value} (F : Array Value) (hF : F.size = n * size) (h : w.ownsRow base e size (.slice (some ⟨g, 0, none⟩) n cap) n xs) :
    (grow (putRow id (Sort.ahead w k) g 0 F) os).ownsRow base e size (.slice (some ⟨g, 0, none⟩) n cap) n F.toList := by
  rcases h.2 with ⟨h0, _⟩ | ⟨g', cap', cur, hv, hb, hg, hn, hc, hcs, ht⟩
  · cases h0
  · cases hv
    refine ⟨by simpa using hF, .inr ⟨g, cap, _, rfl, hb, heap_putF F hg, hn, hc, by simp [putCells, hcs], ?_⟩⟩
    rw [← hF]
    refine take_putF cur F ?_
    rw [hF, hcs]
    exact Nat.mul_le_mul_right _ hn
theorem holds_putF {w : World} {base g cap n size : Nat} {e : TypeId} {xs : List Value} (h : w.ownsRow base e size (.slice (some ⟨g, 0, none⟩) n cap) n xs) : Holds id w g 0 xs.toArray := by
  rcases h.2 with ⟨h0, _⟩ | ⟨g', cap', cur, hv, hb, hg, hn, hc, hcs, ht⟩
  · cases h0
  · cases hv
    intro j hj
    have hj' : j < xs.length := by simpa using hj
    refine ⟨?_, by simp [World.frozen?, hg]⟩
    have h1 : xs[j]? = cur[j]? := by
      rw [← ht, List.getElem?_take, ← Array.getElem?_toList]
      rw [h.1] at hj'
      rw [if_pos hj']
    rw [Nat.zero_add, heap_cell hg, ← h1]
    simp [hj']

theorem recsC_at (l : List Rec) (t : Nat) (ht : t < l.length * 5) : (recsC l)[t]? = (recC (l[t / 5]'(by omega)))[t % 5]? := by
  have h5 : t % 5 < (recC (l[t / 5]'(by omega))).length := by show t % 5 < 5; omega
  have := recsC_get l (t / 5) (by omega) (t % 5) _ (List.getElem?_eq_getElem h5)
  rw [List.getElem?_eq_getElem h5, ← this]
  congr 1
  omega
theorem permIn_all {α : Type} [Inhabited α] {d d' : Array α} (h : PermIn 0 d.size d d') : d'.toList.Perm d.toList := by
  obtain ⟨h1, _, h3⟩ := h
  have e1 : d'.extract 0 d.size = d' := by rw [← h1]; simp
  have e2 : d.extract 0 d.size = d := by simp
  rw [e1, e2] at h3
  exact h3
/-- A sorted list of the same records. -/
def SortedOf (l L : List Rec) : Prop := L.Perm l ∧ L.Pairwise (fun a b => zn.orderI a b ≤ 0)

/-! ### Names -/
end Go.Proofs.Ytnloommafgnanaa
