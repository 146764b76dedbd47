import Derived.Test.YtpcmilhjpmlbpaaGreatDoorQDelG
namespace Go.Proofs.YtpcmilhjpmlbpaaGreatDoor
open Go.RowKit Go.Shelf nm od
def U9 (w:World)(base:Nat)(v:Value)(n:Nat):Prop:=∃xs,w.ownsRow base 78 3 v n xs
theorem U9.three {w:World}{base g n cap:Nat}(h:U9 w base (.slice (some ⟨g,0,none⟩) n cap) n)(j0 j1 j2:Nat)(u0 u1 u2:Value):
 U9 (((w.setCell ⟨g,j0,none⟩ u0).setCell ⟨g,j1,none⟩ u1).setCell ⟨g,j2,none⟩ u2) base (.slice (some ⟨g,0,none⟩) n cap) n/\
 w.grownBy (((w.setCell ⟨g,j0,none⟩ u0).setCell ⟨g,j1,none⟩ u1).setCell ⟨g,j2,none⟩ u2) (some g):=by
 obtain⟨xs,hx⟩:=h;obtain⟨h0,k0⟩:=hx.stored j0 u0;obtain⟨h1,k1⟩:=h0.stored j1 u1;obtain⟨h2,k2⟩:=h1.stored j2 u2;exact⟨⟨_,h2⟩,(k0.trans k1).trans k2⟩
theorem U9.cells {w:World}{base g n cap:Nat}(h:U9 w base (.slice (some ⟨g,0,none⟩) n cap) n){j:Nat}(hj:j<n*3):∃u,w.cell? ⟨g,j,none⟩=some u/\w.frozen? ⟨g,j,none⟩=false:=by
 obtain⟨xs,hx⟩:=h;have h1:=hx.cellAt j hj;rw[List.getElem?_eq_getElem (by rw[hx.1];exact hj)]at h1;exact⟨_,h1,hx.frozenAt j⟩
structure Loose (base:Nat)(w:World)(q a u d:Value)(nq:Nat)(an au ad:List Rec):Prop where
 qs:U9 w base q nq
 ra:w.ownsRow base 80 5 a an.length (qw an)
 ru:w.ownsRow base 80 5 u au.length (qw au)
 rd:w.ownsRow base 80 5 d ad.length (qw ad)
 qa:∀g,q.ownBlock=some g->a.ownBlock≠some g
 qu:∀g,q.ownBlock=some g->u.ownBlock≠some g
 qd:∀g,q.ownBlock=some g->d.ownBlock≠some g
 au_:∀g,a.ownBlock=some g->u.ownBlock≠some g
 ad_:∀g,a.ownBlock=some g->d.ownBlock≠some g
 ud:∀g,u.ownBlock=some g->d.ownBlock≠some g
 QK:base<=w.heap.size
namespace mk
def vs (a u d:Value)(j:Nat):Value:=match j with | 0=>a | 1=>u | _=>d
def ls (an au ad:List Rec)(j:Nat):List Rec:=match j with | 0=>an | 1=>au | _=>ad
end mk
theorem U9.keep {w w':World}{base n:Nat}{v:Value}(h:U9 w base v n)(hk:∀b,v.ownBlock=some b->w'.heap[b]? =w.heap[b]?):U9 w' base v n:=by
 obtain⟨xs,hx⟩:=h;exact⟨xs,qm hx hk⟩
def BelowP (base:Nat)(P:Nat->Prop)(w w':World):Prop:=Below base w w'/\∀b,P b->w'.heap[b]? =w.heap[b]?
section
variable {base:Nat}{P:Nat->Prop}{w wr w':World}
theorem BelowP.size (h:BelowP base P w wr):w.heap.size<=wr.heap.size:=h.1.size
end
end Go.Proofs.YtpcmilhjpmlbpaaGreatDoor
