/-
  zone.New: the walk.
-/
import Derived.Test.YtnloommafgnanaaQZoneM
namespace Go.Proofs.Ytnloommafgnanaa
open Go.RowKit Go.Shelf Go.WideMaps Go.Proofs.Ytnloommafgnanaa.nm Go.Proofs.Ytnloommafgnanaa.od

end Go.Proofs.Ytnloommafgnanaa
/-
  What a zone answers: Apex, Records, Set.
-/
namespace Go.Proofs.Ytnloommafgnanaa
open Go.RowKit Go.Shelf Go.WideMaps Go.Proofs.Ytnloommafgnanaa.nm Go.Proofs.Ytnloommafgnanaa.od

end Go.Proofs.Ytnloommafgnanaa
/-
  What a zone answers: Names.
-/
namespace Go.Proofs.Ytnloommafgnanaa
open Go.RowKit Go.Shelf Go.WideMaps Go.Proofs.Ytnloommafgnanaa.nm Go.Proofs.Ytnloommafgnanaa.od

namespace zn
end zn

/-- A row of names of its own. -/
def NewNames (N : List ByteArray) (w : World) (e : Ending) (w' : World) : Prop := ∃ v, e = .returned v ∧ Below w.heap.size w w' ∧ w'.ownsRow w.heap.size 9 1 v N.length (N.map .string)
end Go.Proofs.Ytnloommafgnanaa
