/-
  The names of a zone, in order; the first is the zone's. No program in sight.
-/
import Derived.Test.YtnloommafgnanaaQFindP
import Derived.Test.YtnloommafgnanaaQZoneP
namespace Go.Proofs.Ytnloommafgnanaa
open Go.RowKit Go.Shelf Go.WideMaps Go.Proofs.Ytnloommafgnanaa.nm Go.Proofs.Ytnloommafgnanaa.od

namespace zn
end zn
end Go.Proofs.Ytnloommafgnanaa
namespace Go.Proofs.Ytnloommafgnanaa
open Go.RowKit Go.Shelf Go.WideMaps Go.Proofs.Ytnloommafgnanaa.nm Go.Proofs.Ytnloommafgnanaa.od

/-- A row of texts in memory. -/
def StrsR (w : World) (v : Value) (ss : List ByteArray) : Prop :=
  ∃ a cap, v = .slice a ss.length cap ∧ ∀ k (h : k < ss.length), ∃ b off, a = some ⟨b, off, none⟩ ∧ b < w.heap.size ∧ w.cell? ⟨b, off + k, none⟩ = some (.string ss[k])
theorem StrsR.below {w w' : World} {v : Value} {ss : List ByteArray} (h : StrsR w v ss) (hb : Below w.heap.size w w') : StrsR w' v ss := by
  obtain ⟨a, cap, rfl, h⟩ := h
  refine ⟨a, cap, rfl, fun k hk => ?_⟩
  obtain ⟨b, off, rfl, hl, hc⟩ := h k hk
  exact ⟨b, off, rfl, Nat.lt_of_lt_of_le hl hb.size, (hb.cell (p := ⟨b, off + k, none⟩) hl).trans hc⟩
end Go.Proofs.Ytnloommafgnanaa
