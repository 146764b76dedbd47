import Derived.Test.YtdjjemajfphjaaaGreatQZoneP
import Derived.Test.YtdjjemajfphjaaaGreatQFindP
import Derived.Deep.LoopGhost
namespace Go.Proofs.YtdjjemajfphjaaaGreat
open Go.RowKit Go.Shelf Go.WideMaps Go.Proofs.YtdjjemajfphjaaaGreat.nm Go.Proofs.YtdjjemajfphjaaaGreat.od
end Go.Proofs.YtdjjemajfphjaaaGreat
namespace Go.Proofs.YtdjjemajfphjaaaGreat
open Go.RowKit Go.Shelf Go.WideMaps Go.Proofs.YtdjjemajfphjaaaGreat.nm Go.Proofs.YtdjjemajfphjaaaGreat.od
namespace zn
end zn
end Go.Proofs.YtdjjemajfphjaaaGreat
namespace Go.Proofs.YtdjjemajfphjaaaGreat
open Go.RowKit Go.Shelf Go.WideMaps Go.Proofs.YtdjjemajfphjaaaGreat.nm Go.Proofs.YtdjjemajfphjaaaGreat.od
structure ZoneF (w : World) (top z : Nat) (apex : ByteArray) (L : List Rec) : Prop where
  v : ZoneV w top z apex L
  small : L.length ≤ 2000
  named : zn.Named L
  sorted : L.Pairwise (fun a b => zn.orderI a b ≤ 0)
theorem ZoneF.kept {w w' : World} {top z : Nat} {apex : ByteArray} {L : List Rec} (h : ZoneF w top z apex L) (hb : Below w.heap.size w w') : ZoneF w' top z apex L :=
  ⟨h.v.below (hb.mono h.v.1), h.small, h.named, h.sorted⟩
theorem fnd_store {B g : Nat} {w wc : World} {T : TypeId} {a0 a1 a2 a3 a4 : Value} (h : wc.heap[g]? = some (.cells #[a0, a1, a2, a3, a4] T (0, 0))) (hB : Below B w wc) (hg : B ≤ g) (v0 v1 v2 v3 v4 : Value) :
    (((((wc.setCell ⟨g, 0, none⟩ v0).setCell ⟨g, 1, none⟩ v1).setCell ⟨g, 2, none⟩ v2).setCell ⟨g, 3, none⟩ v3).setCell ⟨g, 4, none⟩ v4).heap[g]? = some (.cells #[v0, v1, v2, v3, v4] T (0, 0)) ∧
    Below B w (((((wc.setCell ⟨g, 0, none⟩ v0).setCell ⟨g, 1, none⟩ v1).setCell ⟨g, 2, none⟩ v2).setCell ⟨g, 3, none⟩ v3).setCell ⟨g, 4, none⟩ v4) ∧
    ∀ b, b ≠ g → (((((wc.setCell ⟨g, 0, none⟩ v0).setCell ⟨g, 1, none⟩ v1).setCell ⟨g, 2, none⟩ v2).setCell ⟨g, 3, none⟩ v3).setCell ⟨g, 4, none⟩ v4).heap[b]? = wc.heap[b]? := by
  refine ⟨heap_set_at (heap_set_at (heap_set_at (heap_set_at (heap_set_at h 0 v0) 1 v1) 2 v2) 3 v3) 4 v4, ((((hB.setCell hg _).setCell hg _).setCell hg _).setCell hg _).setCell hg _, fun b hb => ?_⟩
  rw [Below.heap_setCell _ _ _ _ hb, Below.heap_setCell _ _ _ _ hb, Below.heap_setCell _ _ _ _ hb, Below.heap_setCell _ _ _ _ hb, Below.heap_setCell _ _ _ _ hb]
end Go.Proofs.YtdjjemajfphjaaaGreat
