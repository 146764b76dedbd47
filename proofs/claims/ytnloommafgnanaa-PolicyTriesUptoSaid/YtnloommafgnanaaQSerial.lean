/-
  zone.Serial; the reference's Counts.
-/
import Derived.Test.YtnloommafgnanaaQZoneP
import Derived.Test.YtnloommafgnanaaQFindP
import Derived.Test.YtnloommafgnanaaQZoneV
import Derived.Deep.LoopGhost
namespace Go.Proofs.Ytnloommafgnanaa
open Go.RowKit Go.Shelf Go.WideMaps Go.Proofs.Ytnloommafgnanaa.nm Go.Proofs.Ytnloommafgnanaa.od

namespace dt
end dt

namespace zn
end zn

end Go.Proofs.Ytnloommafgnanaa
/-
  gazetteersame: Records.
-/
namespace Go.Proofs.Ytnloommafgnanaa
open Go.RowKit Go.Shelf Go.WideMaps Go.Proofs.Ytnloommafgnanaa.nm Go.Proofs.Ytnloommafgnanaa.od

/-- How the walk compares two records. -/
theorem rec_if {α : Type} (r s : Rec) (A B : α) : (if r.owner.toList = s.owner.toList then (if r.typ = s.typ then (if r.cls = s.cls then (if r.ttl = s.ttl then (if r.data.toList = s.data.toList then A else B) else B) else B) else B) else B) = if r = s then A else B := by
  obtain ⟨a1, a2, a3, a4, a5⟩ := r
  obtain ⟨b1, b2, b3, b4, b5⟩ := s
  have e : ∀ a b : ByteArray, a.toList = b.toList ↔ a = b := fun a b => by rw [← str_eq, beq_iff_eq]
  simp only [e, Rec.mk.injEq]
  by_cases h1 : a1 = b1 <;> by_cases h2 : a2 = b2 <;> by_cases h3 : a3 = b3 <;> by_cases h4 : a4 = b4 <;> by_cases h5 : a5 = b5 <;> simp [h1, h2, h3, h4, h5]
end Go.Proofs.Ytnloommafgnanaa
/-
  The law's small zone: it is one.
-/
namespace Go.Proofs.Ytnloommafgnanaa
open Go.RowKit Go.Shelf Go.WideMaps Go.Proofs.Ytnloommafgnanaa.nm Go.Proofs.Ytnloommafgnanaa.od

namespace zn
end zn

end Go.Proofs.Ytnloommafgnanaa
