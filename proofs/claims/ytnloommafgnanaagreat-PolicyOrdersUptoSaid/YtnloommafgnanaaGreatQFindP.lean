/-
  What a zone answers, plainly: what is found, what is there. No program in sight.
-/
import Derived.Test.YtnloommafgnanaaGreatQZoneM
namespace Go.Proofs.YtnloommafgnanaaGreat
open Go.RowKit Go.Shelf Go.WideMaps Go.Proofs.YtnloommafgnanaaGreat.nm Go.Proofs.YtnloommafgnanaaGreat.od

namespace zn
def owned (q : ByteArray) (l : List Rec) : List Rec := l.map fun r => { r with owner := q }
/-! ### Names as rows -/
/-- A zone's own facts. -/
structure Valid (apex : ByteArray) (L : List Rec) : Prop where
  ap : checkB apex = true
  small : L.length ≤ 2000
  each : ∀ r ∈ L, checkB r.owner = true ∧ bad1 r = false ∧ withinB r.owner apex = true
  rules : rulesR apex L = none
theorem Valid.named {apex : ByteArray} {L : List Rec} (h : Valid apex L) : Named L := fun r hr => (h.each r hr).1

end zn
end Go.Proofs.YtnloommafgnanaaGreat
/-
  What a zone gives, and what is absent, plainly. No program in sight.
-/
namespace Go.Proofs.YtnloommafgnanaaGreat
open Go.RowKit Go.Shelf Go.WideMaps Go.Proofs.YtnloommafgnanaaGreat.nm Go.Proofs.YtnloommafgnanaaGreat.od

namespace zn
end zn
end Go.Proofs.YtnloommafgnanaaGreat
/-
  What zone.New says doesn't hang on the list's order, plainly. No program in sight.
-/
namespace Go.Proofs.YtnloommafgnanaaGreat
open Go.RowKit Go.Shelf Go.WideMaps Go.Proofs.YtnloommafgnanaaGreat.nm Go.Proofs.YtnloommafgnanaaGreat.od

namespace zn
end zn
end Go.Proofs.YtnloommafgnanaaGreat
