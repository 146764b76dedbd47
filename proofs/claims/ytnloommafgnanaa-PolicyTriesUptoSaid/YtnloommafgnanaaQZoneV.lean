/-
  What zone.Find needs: what is there, looked up; a row whose owners are written over; how the way down ends.
-/
import Derived.Test.YtnloommafgnanaaQZoneP
import Derived.Test.YtnloommafgnanaaQFindP
import Derived.Deep.LoopGhost
namespace Go.Proofs.Ytnloommafgnanaa
open Go.RowKit Go.Shelf Go.WideMaps Go.Proofs.Ytnloommafgnanaa.nm Go.Proofs.Ytnloommafgnanaa.od

namespace zn
end zn

theorem recsC_apps (a b : List Rec) : recsC (a ++ b) = recsC a ++ recsC b := by unfold recsC; rw [List.flatMap_append]
end Go.Proofs.Ytnloommafgnanaa
/-
  zone.Find.
-/
namespace Go.Proofs.Ytnloommafgnanaa
open Go.RowKit Go.Shelf Go.WideMaps Go.Proofs.Ytnloommafgnanaa.nm Go.Proofs.Ytnloommafgnanaa.od

end Go.Proofs.Ytnloommafgnanaa
