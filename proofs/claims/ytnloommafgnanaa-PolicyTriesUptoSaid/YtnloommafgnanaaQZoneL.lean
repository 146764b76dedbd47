/-
  zone.rules.
-/
import Derived.Test.YtnloommafgnanaaQZoneF
namespace Go.Proofs.Ytnloommafgnanaa
open Go.RowKit Go.Shelf Go.WideMaps Go.Proofs.Ytnloommafgnanaa.nm

namespace zn
/-- How often records like this one have come. -/
def cntFull (l : List Rec) (κ : ByteArray × Int × ByteArray) : Nat := (l.filter fun r => decide (fullR r = κ)).length
def twiceB (l : List Rec) (k : Nat) : Bool := match l[k]? with
  | some r => decide (0 < cntFull (l.take k) (fullR r))
  | none => false
def soaC (l : List Rec) : Nat := l.foldl (fun c r => soaN r c) 0
def soaB (apex : ByteArray) (l : List Rec) (k : Nat) : Bool := match l[k]? with
  | some r => bad2 apex (soaC (l.take k)) r
  | none => false
/-- Records at a name beside which no alias may stand. -/
def allF (l : List Rec) (n : ByteArray) : Int := ((l.filter fun r => !decide (r.typ = 46) && !decide (r.typ = 47) && decide (foldS r.owner = n)).length : Nat)
/-- The names above one, down to the root's. -/
def aboves (low : ByteArray) : List ByteArray := (List.range (countI low).toNat).map fun i : Nat => tailS low (countI low - 1 - i)
/-- Records below a name. -/
def belowF (l : List Rec) (n : ByteArray) : Int := (((l.flatMap fun r => aboves (foldS r.owner)).filter fun a => decide (a = n)).length : Nat)
/-- zone.rules: what is thrown. -/
def rulesR (apex : ByteArray) (l : List Rec) : Option (Int × Int) :=
  match firstB (twiceB l) l.length with
  | some k => some (k, 19)
  | none => match firstB (soaB apex l) l.length with
    | some k => some (k, 15)
    | none => if soaC l = 0 then some (-1, 15) else if (rowsS l (foldS apex, 2)).length = 0 then some (-1, 16) else
      match firstB (atB l bad3) l.length with
      | some k => some (k, 22)
      | none => match firstB (atB l (bad4 (allF l))) l.length with
        | some k => some (k, 17)
        | none => match firstB (atB l (bad5 (foldS apex) (rowsS l) (belowF l))) l.length with
          | some k => some (k, 18)
          | none => match firstB (atB l (bad6 (rowsS l))) l.length with
            | some k => some (k, 21)
            | none => none
end zn
end Go.Proofs.Ytnloommafgnanaa
/-
  zone.rules: the walk.
-/
namespace Go.Proofs.Ytnloommafgnanaa
open Go.RowKit Go.Shelf Go.WideMaps Go.Proofs.Ytnloommafgnanaa.nm

end Go.Proofs.Ytnloommafgnanaa
/-
  zone.rules: the walk.
-/
namespace Go.Proofs.Ytnloommafgnanaa
open Go.RowKit Go.Shelf Go.WideMaps Go.Proofs.Ytnloommafgnanaa.nm

end Go.Proofs.Ytnloommafgnanaa
