import Derived.Test.YtpcmilhjpmlbpaaGreatDoorQCpE
import Derived.Test.YtpcmilhjpmlbpaaGreatDoorQRSp
import Derived.Orders
import Derived.WalkKit
set_option maxRecDepth 100000
set_option maxHeartbeats 8000000
namespace Go.Proofs.YtpcmilhjpmlbpaaGreatDoor
open Go
def jV (a:Act)(g:Nat->Option Value):Act:={ a with tmps:=a.tmps.mapIdx λt v=>(g t).getD v}
def updG (g:Nat->Option Value)(t:Nat)(v:Value):Nat->Option Value:=λs=>if s=t then some v else g s
def xG (d:Nat->Bool)(i:Nat):Nat->Bool:=λj=>if j=i then true else d j
theorem updG_same (g:Nat->Option Value)(t:Nat)(v:Value):updG g t v t=some v:=if_pos rfl
theorem updG_other (g:Nat->Option Value){s t:Nat}(v:Value)(h:s≠t):updG g t v s=g s:=if_neg h
theorem Yb (d:Nat->Bool)(i:Nat):xG d i i=true:=if_pos rfl
theorem yC (d:Nat->Bool){i j:Nat}(h:j≠i):xG d i j=d j:=if_neg h
theorem fillA_none (a:Act):jV a (λ_=>none)=a:=by
 unfold jV
 cases a
 simp only[Option.getD_none,Act.mk.injEq,and_true];apply Array.ext
 ·simp
 ·intro i h1 h2;simp
theorem fillA_put (a:Act)(g:Nat->Option Value)(t:Nat)(v:Value):(jV a g).put (some t) v=jV a (updG g t v):=by
 unfold jV Act.put;simp only[Act.mk.injEq,and_true];apply Array.ext
 ·simp
 ·intro i h1 h2;have hi:i<(Array.mapIdx (λt v=>(g t).getD v) a.tmps).size:=by simpa using h1
  rw[Array.getElem_setIfInBounds hi];simp only[Array.getElem_mapIdx,updG];by_cases h:t=i
  ·subst h;simp
  ·rw[if_neg h,if_neg (Ne.symm h)]
theorem fillA_some {a:Act}{g:Nat->Option Value}{t:Nat}{v:Value}(h:g t=some v)(ht:t<a.tmps.size):(jV a g).eval (.tmp t)=v:=by
 unfold jV Act.eval;simp only[Array.getD_eq_getD_getElem?,Array.getElem?_mapIdx,Array.getElem?_eq_getElem ht,Option.map_some,Option.getD_some,h]
theorem fillA_keep {a:Act}{g:Nat->Option Value}{t:Nat}(h:g t=none):(jV a g).eval (.tmp t)=a.eval (.tmp t):=by
 unfold jV Act.eval;simp only[Array.getD_eq_getD_getElem?,Array.getElem?_mapIdx,h]
 cases a.tmps[t]? <;> rfl
section
variable {P:Program}{ops:Array Oper}{Q:Exit->Act->World->Prop}{md:Region.Mode}{a:Act}
def topB (md:Region.Mode)(ops:Array Oper):Bool:=(List.range ops.size).all λi=>((ops[i]?).map λo=>o.after.all λe=>!Region.binds md e || decide (e.on<i)).getD true
theorem all_listed {L:Array Bool}(ht:topB md ops=true)(hr:Region.ready md ops L= [])(hL:L.size=ops.size):∀i,i<ops.size->L.getD i false=true:=by
 intro i
 induction i using Nat.strongRecOn with
 | ind i ih=>
   intro hi
   cases hc:L.getD i false with
   | true=>rfl
   | false=>
     exfalso;have hm:i∈Region.ready md ops L:=by
      rw[mem_ready];refine⟨?_,ops[i],by simp[hi],λe he hb=>?_⟩
      ·have hlt:i<L.size:=by omega
       simp only[Array.getD_eq_getD_getElem?,Array.getElem?_eq_getElem hlt,Option.getD_some]at hc ⊢;exact hc
      ·have h1:=List.all_eq_true.1 ht i (List.mem_range.2 hi);simp only[Array.getElem?_eq_getElem hi,Option.map_some,Option.getD_some]at h1;have h2:=Array.all_eq_true_iff_forall_mem.1 h1 e he;simp only[hb,Bool.not_true,Bool.false_or,H7]at h2;exact ih e.on h2 (by omega)
     rw[hr]at hm
     cases hm
theorem wpAny_ghost (ht:topB md ops=true)(I:(Nat->Bool)->(Nat->Option Value)->World->Prop)
 (step:∀d g w,I d g w->∀i o,ops[i]? =some o->d i=false->(∀e∈o.after,Region.binds md e=true->d e.on=true)->
  wpOp P ops Q i (λa' w'=>∃g',a'=jV a g'/\I (xG d i) g' w') (jV a g) w)
 (fin:∀d g w,I d g w->(∀i,i<ops.size->d i=true)->Q .normal (jV a g) w):
 ∀(n:Nat) (L:Array Bool) (g:Nat->Option Value) (w:World),L.size=ops.size->L.toList.count false<=n->I (λj=>L.getD j false) g w->wpAny P md ops Q n L (jV a g) w:=by
 intro n
 induction n with
 | zero=>
   intro L g w hL hc hI;have hr:Region.ready md ops L= []:=by
    rw[List.eq_nil_iff_forall_not_mem];intro i hi;obtain⟨h0,o,ho,_⟩:=mem_ready.1 hi;have hlt:i<L.size:=by rw[hL];exact(Array.getElem?_eq_some_iff.1 ho).1
    simp only[Array.getD_eq_getD_getElem?,Array.getElem?_eq_getElem hlt,Option.getD_some]at h0;have:false∈L.toList:=by rw[<- h0];simp
    have:=List.count_pos_iff.2 this;omega
   exact⟨hr,fin _ _ _ hI (all_listed ht hr hL)⟩
 | succ n ih=>
   intro L g w hL hc hI;refine⟨λhr=>fin _ _ _ hI (all_listed ht hr hL),λi hi=>?_⟩;obtain⟨h0,o,ho,hall⟩:=mem_ready.1 hi;have hlt:i<L.size:=by rw[hL];exact(Array.getElem?_eq_some_iff.1 ho).1
   have h0':L.getD i false=false:=by
    simp only[Array.getD_eq_getD_getElem?,Array.getElem?_eq_getElem hlt,Option.getD_some]at h0 ⊢;exact h0
   refine wpOp_mono ?_ (step _ g w hI i o ho h0' hall);rintro a' w' ⟨g',rfl,hI'⟩;refine ih (L.setIfInBounds i true) g' w' (by simpa using hL) ?_ ?_
   ·have hget:L.toList[i]'(by simpa using hlt)=false:=by
     simp only[Array.getD_eq_getD_getElem?,Array.getElem?_eq_getElem hlt,Option.getD_some]at h0
     simpa using h0
    rw[Array.toList_setIfInBounds,List.count_set (by simpa using hlt),hget];have e1:((false == false)=true):=rfl;have e2:¬((true == false)=true):=by decide
    rw[if_pos e1,if_neg e2];omega
   ·have e:(λj=>(L.setIfInBounds i true).getD j false)=xG (λj=>L.getD j false) i:=by
     funext j
     unfold xG;by_cases hj:j=i
     ·subst hj;simp[hlt]
     ·rw[if_neg hj,getD_set_ne false (Ne.symm hj)]
    rw[e];exact hI'
theorem Xu {id:Nat}{w:World}(I:(Nat->Bool)->(Nat->Option Value)->World->Prop)(hm:P.follows .mixedOrders=true)(ht:topB .any ops=true)
 (h0:I (λ_=>false) (λ_=>none) w.drew)
 (step:∀d g w,I d g w->∀i o,ops[i]? =some o->d i=false->(∀e∈o.after,Region.binds .any e=true->d e.on=true)->
  wpOp P ops Q i (λa' w'=>∃g',a'=jV a g'/\I (xG d i) g' w') (jV a g) w)
 (fin:∀d g w,I d g w->(∀i,i<ops.size->d i=true)->Q .normal (jV a g) w):(Code.region id ops true).wp P Q a w:=by
 refine wp_region_any hm ?_
 have h:=wpAny_ghost ht I step fin ops.size (Array.replicate ops.size false) (λ_=>none) w.drew (by simp) (by simp) (by
  have e:(λj=>(Array.replicate ops.size false).getD j false)=λ_=>false:=by
   funext j
   simp only[Array.getD_eq_getD_getElem?,Array.getElem?_replicate]
   split <;> rfl
  rw[e];exact h0)
 rw[fillA_none]at h;exact h
variable {i:Nat}{o:Oper}{d:Nat->Bool}{g:Nat->Option Value}{w w':World}{I:(Nat->Bool)->(Nat->Option Value)->World->Prop}
theorem yj {t:Nat}{v:Value}(hi:ops[i]? =some o)(hg:o.guard=none)(hd:o.dst=some t)(hr:(execOp (jV a g).eval o).run P w= .ok (.value v) w')
 (hI:I (xG d i) (updG g t v) w'):wpOp P ops Q i (λa' w'=>∃g',a'=jV a g'/\I (xG d i) g' w') (jV a g) w:=by
 unfold wpOp;simp only[hi];rw[if_pos (by unfold Region.wanted;rw[hg])];refine .inl ?_;unfold Oper.wp;rw[hr];show ∃g',_/\_;exact⟨_,by rw[hd];exact fillA_put a g t v,hI⟩
theorem ghost_skip (hi:ops[i]? =some o)(hg:o.guard=none)(hd:o.dst=none)(hr:(execOp (jV a g).eval o).run P w= .ok .skip w')
 (hI:I (xG d i) g w'):wpOp P ops Q i (λa' w'=>∃g',a'=jV a g'/\I (xG d i) g' w') (jV a g) w:=by
 unfold wpOp;simp only[hi];rw[if_pos (by unfold Region.wanted;rw[hg])];refine .inl ?_;unfold Oper.wp;rw[hr];show ∃g',_/\_;exact⟨g,by rw[hd];rfl,hI⟩
theorem ghost_call {t:Nat}{f:FuncId}{args:Array Value}(hi:ops[i]? =some o)(hg:o.guard=none)(hd:o.dst=some t)(hr:(execOp (jV a g).eval o).run P w= .ok (.enter f args) w')
 (hc:Calls P f args w' λe w''=>∃v,e= .returned v/\I (xG d i) (updG g t v) w''):wpOp P ops Q i (λa' w'=>∃g',a'=jV a g'/\I (xG d i) g' w') (jV a g) w:=by
 unfold wpOp;simp only[hi];rw[if_pos (by unfold Region.wanted;rw[hg])];refine .inl ?_;unfold Oper.wp;rw[hr,Oper.upon_enter];refine hc.mono ?_;rintro e w'' ⟨v,rfl,h⟩;exact⟨_,by rw[hd];exact fillA_put a g t v,h⟩
end
end Go.Proofs.YtpcmilhjpmlbpaaGreatDoor
namespace Go.Proofs.YtpcmilhjpmlbpaaGreatDoor
open Go.RowKit Go.Shelf nm od
def OnePost (h:Hd)(t:Bool)(c:Int)(qs:List Qn)(l:List Rec)(w:World)(e:Ending)(w':World):Prop:=∃q v,e= .returned (yu (hdA h t c) q v qE qE)/\Below w.heap.size w w'/\
 w'.ownsRow w.heap.size 78 3 q qs.length (xg qs)/\w'.ownsRow w.heap.size 80 5 v l.length (qw l)/\∀b,q.ownBlock=some b->v.ownBlock≠some b
namespace on
@[reducible] def op0:Oper:={ dst:=some 5,op:=Op.fieldAddr 33 (Operand.tmp 1) 0,type:=0,pos:= "transfer.go:132",after:=#[],guard:=none}
@[reducible] def op1:Oper:={ dst:=some 6,op:=Op.load 3 (Operand.tmp 5),type:=3,pos:= "transfer.go:132",after:=#[{ on:=0,ground:=Ground.data}],guard:=none}
@[reducible] def op2:Oper:={ dst:=some 7,op:=Op.fieldAddr 33 (Operand.tmp 1) 2,type:=0,pos:= "transfer.go:132",after:=#[],guard:=none}
@[reducible] def op3:Oper:={ dst:=some 8,op:=Op.load 3 (Operand.tmp 7),type:=3,pos:= "transfer.go:132",after:=#[{ on:=2,ground:=Ground.data}],guard:=none}
@[reducible] def op4:Oper:={ dst:=some 9,op:=Op.load 3 (Operand.tmp 2),type:=3,pos:= "transfer.go:132",after:=#[],guard:=none}
@[reducible] def op5:Oper:={ dst:=some 10,op:=Op.binOp BinOp.eql 3 (Operand.tmp 9) (Operand.const (Value.int IntKind.i64 0)) 3,type:=4,pos:= "transfer.go:132",after:=#[{ on:=4,ground:=Ground.data}],guard:=none}
@[reducible] def op6:Oper:={ dst:=some 11,op:=Op.fieldAddr 33 (Operand.tmp 1) 5,type:=0,pos:= "transfer.go:132",after:=#[],guard:=none}
@[reducible] def op7:Oper:={ dst:=some 12,op:=Op.load 4 (Operand.tmp 11),type:=4,pos:= "transfer.go:132",after:=#[{ on:=6,ground:=Ground.data}],guard:=none}
@[reducible] def op8:Oper:={ dst:=some 13,op:=Op.fieldAddr 33 (Operand.tmp 1) 8,type:=0,pos:= "transfer.go:132",after:=#[],guard:=none}
@[reducible] def op9:Oper:={ dst:=some 14,op:=Op.load 4 (Operand.tmp 13),type:=4,pos:= "transfer.go:132",after:=#[{ on:=8,ground:=Ground.data}],guard:=none}
@[reducible] def op10:Oper:={ dst:=some 15,op:=Op.load 3 (Operand.tmp 2),type:=3,pos:= "transfer.go:132",after:=#[],guard:=none}
@[reducible] def op11:Oper:={ dst:=some 16,op:=Op.fieldAddr 33 (Operand.tmp 1) 10,type:=0,pos:= "transfer.go:132",after:=#[],guard:=none}
@[reducible] def op12:Oper:={ dst:=some 17,op:=Op.load 30 (Operand.tmp 16),type:=30,pos:= "transfer.go:132",after:=#[{ on:=11,ground:=Ground.data}],guard:=none}
@[reducible] def op13:Oper:={ dst:=some 18,op:=Op.call { callee:=Callee.value (Operand.func 37),args:=#[Operand.tmp 17],argTypes:=#[30]},type:=30,pos:= "transfer.go:132",after:=#[{ on:=12,ground:=Ground.data}],guard:=none}
@[reducible] def op14:Oper:={ dst:=some 19,op:=Op.move (Operand.tmp 0),type:=31,pos:= "transfer.go:132",after:=#[],guard:=none}
@[reducible] def op15:Oper:={ dst:=some 20,op:=Op.call { callee:=Callee.value (Operand.func 38),args:=#[Operand.tmp 19],argTypes:=#[31]},type:=31,pos:= "transfer.go:132",after:=#[{ on:=14,ground:=Ground.data},{ on:=13,ground:=Ground.chain}],guard:=none}
@[reducible] def op16:Oper:={ dst:=some 21,op:=Op.build 33 #[(0,Operand.tmp 6),(1,Operand.const (Value.bool true)),(2,Operand.tmp 8),(3,Operand.tmp 10),(5,Operand.tmp 12),(8,Operand.tmp 14),(9,Operand.tmp 15),(10,Operand.tmp 18),(11,Operand.tmp 20)],type:=33,pos:= "transfer.go:132",after:=#[{ on:=1,ground:=Ground.data},{ on:=3,ground:=Ground.data},{ on:=5,ground:=Ground.data},{ on:=7,ground:=Ground.data},{ on:=9,ground:=Ground.data},{ on:=10,ground:=Ground.data},{ on:=13,ground:=Ground.data},{ on:=15,ground:=Ground.data}],guard:=none}
@[reducible] def op17:Oper:={ dst:=none,op:=Op.store 33 (Operand.tmp 4) (Operand.tmp 21),type:=0,pos:= "transfer.go:132",after:=#[{ on:=16,ground:=Ground.data},{ on:=15,ground:=Ground.chain},{ on:=0,ground:=Ground.phase},{ on:=1,ground:=Ground.phase},{ on:=2,ground:=Ground.phase},{ on:=3,ground:=Ground.phase},{ on:=4,ground:=Ground.phase},{ on:=5,ground:=Ground.phase},{ on:=6,ground:=Ground.phase},{ on:=7,ground:=Ground.phase},{ on:=8,ground:=Ground.phase},{ on:=9,ground:=Ground.phase},{ on:=10,ground:=Ground.phase},{ on:=11,ground:=Ground.phase},{ on:=12,ground:=Ground.phase},{ on:=13,ground:=Ground.phase},{ on:=14,ground:=Ground.phase},{ on:=15,ground:=Ground.phase},{ on:=16,ground:=Ground.phase}],guard:=none}
@[reducible] def ops:Array Oper:=#[op0,op1,op2,op3,op4,op5,op6,op7,op8,op9,op10,op11,op12,op13,op14,op15,op16,op17]
structure Nums where
 q:Value
 r:Value
structure In where
 bo:Nat
 bc:Nat
 bm:Nat
 h:Hd
 t:Bool
 c:Int
 qv:Value
 lv:Value
def vOf (p:In)(s:Nums)(i:Nat):Option Value:=
 if i=0 then some (.pointer (some ⟨p.bo,0,none⟩)) else if i=1 then some (.int .i64 p.h.id) else if i=2 then some (.pointer (some ⟨p.bo,2,none⟩)) else if i=3 then some (.int .i64 p.h.op) else if i=4 then some (.int .i64 p.c) else if i=5 then some (.bool p.t) else if i=6 then some (.pointer (some ⟨p.bo,5,none⟩)) else if i=7 then some (.bool p.h.rd) else if i=8 then some (.pointer (some ⟨p.bo,8,none⟩)) else if i=9 then some (.bool p.h.cd) else if i=10 then some (.int .i64 p.c) else if i=11 then some (.pointer (some ⟨p.bo,10,none⟩)) else if i=12 then some p.qv else if i=13 then some s.q else if i=14 then some p.lv else if i=15 then some s.r else if i=16 then some (yu (hdA p.h p.t p.c) s.q s.r (.slice none 0 0) (.slice none 0 0)) else none
def gOf (p:In)(s:Nums)(d:Nat->Bool)(t:Nat):Option Value:=if 5<=t/\t<22/\d (t-5)=true then vOf p s (t-5) else none
section
variable {p:In}{s:Nums}{d:Nat->Bool}
theorem Qt {i t:Nat}{v:Value}(ht:5<=t/\t<22)(hi:t-5=i)(hv:vOf p s i=some v):updG (gOf p s d) t v=gOf p s (xG d i):=by
 funext k
 by_cases h:k=t
 ·subst h;rw[updG_same];unfold gOf;rw[hi,Yb,if_pos ⟨ht.1,ht.2,rfl⟩,hv]
 ·rw[updG_other _ _ h];unfold gOf;by_cases hs:5<=k/\k<22
  ·have:k-5≠i:=by omega
   rw[yC _ this]
  ·rw[if_neg (λh=>hs ⟨h.1,h.2.1⟩),if_neg (λh=>hs ⟨h.1,h.2.1⟩)]
theorem g_skip:gOf p s d=gOf p s (xG d 17):=by
 funext k
 unfold gOf;by_cases hs:5<=k/\k<22
 ·have:k-5≠17:=by omega
  rw[yC _ this]
 ·rw[if_neg (λh=>hs ⟨h.1,h.2.1⟩),if_neg (λh=>hs ⟨h.1,h.2.1⟩)]
theorem g_at {t:Nat}(ht:5<=t/\t<22)(hd:d (t-5)=true):gOf p s d t=vOf p s (t-5):=if_pos ⟨ht.1,ht.2,hd⟩
theorem g_low {t:Nat}(ht:t<5):gOf p s d t=none:=if_neg (λh=>by omega)
theorem g_nums {s':Nums}(h:∀i,d i=true->vOf p s i=vOf p s' i):gOf p s d=gOf p s' d:=by
 funext k
 unfold gOf;by_cases hs:5<=k/\k<22/\d (k-5)=true
 ·rw[if_pos hs,if_pos hs,h _ hs.2.2]
 ·rw[if_neg hs,if_neg hs]
end
structure J (w0:World)(p:In)(qs:List Qn)(l:List Rec)(s:Nums)(d:Nat->Bool)(w:World):Prop where
 below:Below w0.heap.size w0 w
 fq:d 13=true->w.ownsRow w0.heap.size 78 3 s.q qs.length (xg qs)/\∀b,s.q.ownBlock=some b->b≠p.bm
 fr:d 15=true->w.ownsRow w0.heap.size 80 5 s.r l.length (qw l)/\∀b,s.r.ownBlock=some b->b≠p.bm
 ap:d 13=true->d 15=true->∀b,s.q.ownBlock=some b->s.r.ownBlock≠some b
 n13:d 13=false->d 16=false
 n15:d 15=false->d 16=false
 n17:d 16=false->d 17=false
 un:d 17=false->qi w p.bm hd0 qE qE qE qE
 st:d 17=true->qi w p.bm (hdA p.h p.t p.c) s.q s.r qE qE
def I (w0:World)(p:In)(qs:List Qn)(l:List Rec)(d:Nat->Bool)(g:Nat->Option Value)(w:World):Prop:=∃s,g=gOf p s d/\J w0 p qs l s d w
theorem J.lt {w0 w:World}{p:In}{qs:List Qn}{l:List Rec}{s:Nums}{d:Nat->Bool}(h:J w0 p qs l s d w):p.bm<w.heap.size:=by
 cases e:d 17
 ·exact(h.un e).lt
 ·exact(h.st e).lt
theorem J.step {w0 w w':World}{p:In}{qs:List Qn}{l:List Rec}{s:Nums}{d:Nat->Bool}(h:J w0 p qs l s d w)(hb:Below w.heap.size w w'){i:Nat}(hi:i≠13/\i≠15/\i≠17)(h16:i=16->d 13=true/\d 15=true):J w0 p qs l s (xG d i) w':=by
 have e13:xG d i 13=d 13:=yC _ (Ne.symm hi.1);have e15:xG d i 15=d 15:=yC _ (Ne.symm hi.2.1);have e17:xG d i 17=d 17:=yC _ (Ne.symm hi.2.2);have e16:i≠16->xG d i 16=d 16:=λe=>yC _ (Ne.symm e);refine⟨h.below.trans (hb.mono h.below.size),?_,?_,?_,?_,?_,?_,?_,?_⟩ <;> simp only[e13,e15,e17]
 ·intro h2;obtain⟨a,b⟩:=h.fq h2;exact⟨ownsRow_below a hb,b⟩
 ·intro h2;obtain⟨a,b⟩:=h.fr h2;exact⟨ownsRow_below a hb,b⟩
 ·exact h.ap
 ·intro h2;by_cases e:i=16
  ·rw[(h16 e).1]at h2;cases h2
  ·rw[e16 e];exact h.n13 h2
 ·intro h2;by_cases e:i=16
  ·rw[(h16 e).2]at h2;cases h2
  ·rw[e16 e];exact h.n15 h2
 ·intro h2;by_cases e:i=16
  ·subst e;rw[Yb]at h2;cases h2
  ·rw[e16 e]at h2;exact h.n17 h2
 ·intro h2;exact(h.un h2).below hb
 ·intro h2;exact(h.st h2).below hb
section
variable {ρ:Operand->Value}{dst:Option Tmp}{ty:TypeId}{pos:String}{af:Array Edge}{gd:Option (Nat×Bool)}{w w':World}
theorem run_move {x:Operand}{v:Value}(hx:ρ x=v):(execOp ρ ⟨dst,.move x,ty,pos,af,gd⟩).run Tryz.prog w= .ok (.value v) w:=by
 unfold execOp;simp[hx]
theorem run_field0 {x:Operand}{b:Nat}(hx:ρ x= .pointer (some ⟨b,0,none⟩)):(execOp ρ ⟨dst,.fieldAddr 33 x 0,ty,pos,af,gd⟩).run Tryz.prog w= .ok (.value (.pointer (some ⟨b,0,none⟩))) w:=by
 unfold execOp;simp only[hx]
 go_simp
theorem run_field2 {x:Operand}{b:Nat}(hx:ρ x= .pointer (some ⟨b,0,none⟩)):(execOp ρ ⟨dst,.fieldAddr 33 x 2,ty,pos,af,gd⟩).run Tryz.prog w= .ok (.value (.pointer (some ⟨b,2,none⟩))) w:=by
 unfold execOp;simp only[hx]
 go_simp
theorem run_field5 {x:Operand}{b:Nat}(hx:ρ x= .pointer (some ⟨b,0,none⟩)):(execOp ρ ⟨dst,.fieldAddr 33 x 5,ty,pos,af,gd⟩).run Tryz.prog w= .ok (.value (.pointer (some ⟨b,5,none⟩))) w:=by
 unfold execOp;simp only[hx]
 go_simp
theorem run_field8 {x:Operand}{b:Nat}(hx:ρ x= .pointer (some ⟨b,0,none⟩)):(execOp ρ ⟨dst,.fieldAddr 33 x 8,ty,pos,af,gd⟩).run Tryz.prog w= .ok (.value (.pointer (some ⟨b,8,none⟩))) w:=by
 unfold execOp;simp only[hx]
 go_simp
theorem run_field10 {x:Operand}{b:Nat}(hx:ρ x= .pointer (some ⟨b,0,none⟩)):(execOp ρ ⟨dst,.fieldAddr 33 x 10,ty,pos,af,gd⟩).run Tryz.prog w= .ok (.value (.pointer (some ⟨b,10,none⟩))) w:=by
 unfold execOp;simp only[hx]
 go_simp
theorem J3 {x:Operand}{b o:Nat}{u:Int}(hx:ρ x= .pointer (some ⟨b,o,none⟩))(hc:w.cell? ⟨b,o,none⟩=some (.int .i64 u)):(execOp ρ ⟨dst,.load 3 x,ty,pos,af,gd⟩).run Tryz.prog w= .ok (.value (.int .i64 u)) w:=by
 unfold execOp;simp only[hx]
 go_simp
theorem run_loadB {x:Operand}{b o:Nat}{u:Bool}(hx:ρ x= .pointer (some ⟨b,o,none⟩))(hc:w.cell? ⟨b,o,none⟩=some (.bool u)):(execOp ρ ⟨dst,.load 4 x,ty,pos,af,gd⟩).run Tryz.prog w= .ok (.value (.bool u)) w:=by
 unfold execOp;simp only[hx]
 go_simp
theorem run_loadQ {x:Operand}{b o:Nat}{a:Option Addr}{n c:Nat}(hx:ρ x= .pointer (some ⟨b,o,none⟩))(hc:w.cell? ⟨b,o,none⟩=some (.slice a n c)):(execOp ρ ⟨dst,.load 30 x,ty,pos,af,gd⟩).run Tryz.prog w= .ok (.value (.slice a n c)) w:=by
 unfold execOp;simp only[hx]
 go_simp
theorem run_eql {x:Operand}{c:Int}{t:Bool}(hx:ρ x= .int .i64 c)(hk:ρ (.const (.int .i64 0))= .int .i64 0)(ht:(c == 0)=t):(execOp ρ ⟨dst,.binOp .eql 3 x (.const (.int .i64 0)) 3,ty,pos,af,gd⟩).run Tryz.prog w= .ok (.value (.bool t)) w:=by
 have h2:decide (c=0)=t:=by rw[<- ht];exact(Bool.beq_eq_decide_eq ..).symm
 unfold execOp;simp only[hx,hk]
 go_simp
theorem run_call1 {x:Operand}{f:FuncId}{tys:Array TypeId}(hf:ρ (.func f)= .func (.func f) #[] #[])(he:∀args,(callFunc f args).run Tryz.prog w= .ok (.enter f args) w){u:Value}(hx:ρ x=u):
 (execOp ρ ⟨dst,.call { callee:=.value (.func f),args:=#[x],argTypes:=tys},ty,pos,af,gd⟩).run Tryz.prog w= .ok (.enter f #[u]) w:=by
 subst hx;unfold execOp resolve;simp only[hf]
 go_simp
theorem run_build {x0 x1 x2 x3 x5 x8 x9 x10 x11:Operand}{i o c:Int}{r t rd cd:Bool}{aq ar:Option Addr}{nq nr cq cr:Nat}(h0:ρ x0= .int .i64 i)(h1:ρ x1= .bool r)(h2:ρ x2= .int .i64 o)(h3:ρ x3= .bool t)(h5:ρ x5= .bool rd)(h8:ρ x8= .bool cd)(h9:ρ x9= .int .i64 c)(h10:ρ x10= .slice aq nq cq)(h11:ρ x11= .slice ar nr cr):
 (execOp ρ ⟨dst,.build 33 #[(0,x0),(1,x1),(2,x2),(3,x3),(5,x5),(8,x8),(9,x9),(10,x10),(11,x11)],ty,pos,af,gd⟩).run Tryz.prog w= .ok (.value (yu ⟨i,r,o,t,false,rd,false,false,cd,c⟩ (.slice aq nq cq) (.slice ar nr cr) (.slice none 0 0) (.slice none 0 0))) w:=by
 unfold execOp
 go_simp
theorem run_store {x y:Operand}{b:Nat}{h h0:Hd}{aq ar:Option Addr}{nq nr cq cr:Nat}(hx:ρ x= .pointer (some ⟨b,0,none⟩))(hy:ρ y=yu h (.slice aq nq cq) (.slice ar nr cr) (.slice none 0 0) (.slice none 0 0))(hm:qi w b h0 qE qE qE qE):
 ∃W,(execOp ρ ⟨dst,.store 33 x y,ty,pos,af,gd⟩).run Tryz.prog w= .ok .skip W/\qi W b h (.slice aq nq cq) (.slice ar nr cr) qE qE/\w.grownBy W (some b):=by
 obtain⟨y0,y1,y2,y3,y4,y5,y6,y7,y8,y9,y10,y11,y12,y13⟩:=qi.facts hm;have f0:=qi.free hm 0;have f1:=qi.free hm 1;have f2:=qi.free hm 2;have f3:=qi.free hm 3;have f4:=qi.free hm 4;have f5:=qi.free hm 5;have f6:=qi.free hm 6;have f7:=qi.free hm 7;have f8:=qi.free hm 8;have f9:=qi.free hm 9;have f10:=qi.free hm 10;have f11:=qi.free hm 11;have f12:=qi.free hm 12;have f13:=qi.free hm 13;have hst:=yg hm h (.slice aq nq cq) (.slice ar nr cr) qE qE;refine⟨_,?_,hst.1,hst.2⟩;clear hst hm;unfold execOp;simp only[hx,hy]
 go_simp
end
theorem callFunc_q (args:Array Value)(w:World):(callFunc 37 args).run Tryz.prog w= .ok (.enter 37 args) w:=by kernel_rfl
theorem callFunc_r (args:Array Value)(w:World):(callFunc 38 args).run Tryz.prog w= .ok (.enter 38 args) w:=by kernel_rfl
theorem region {id:Nat}{a:Act}{w0 w1:World}{Q:Exit->Act->World->Prop}{p:In}{qs:List Qn}{l:List Rec}{qa:Option Addr}{qc:Nat}{a0 u0 d0:Value}(hq:p.qv= .slice qa qs.length qc)(ht:(p.c == 0)=p.t)
 (e0:a.eval (.tmp 0)=p.lv) (e1:a.eval (.tmp 1)= .pointer (some ⟨p.bo,0,none⟩)) (e2:a.eval (.tmp 2)= .pointer (some ⟨p.bc,0,none⟩)) (e4:a.eval (.tmp 4)= .pointer (some ⟨p.bm,0,none⟩)) (hsz:a.tmps.size=22) (hbm0:w0.heap.size<=p.bm)
 (hB1:Below w0.heap.size w0 w1) (hm1:qi w1 p.bm hd0 qE qE qE qE)
 (hm:∀X,Below w0.heap.size w0 X->qi X p.bo p.h p.qv a0 u0 d0) (hc:∀X,Below w0.heap.size w0 X->X.cell? ⟨p.bc,0,none⟩=some (.int .i64 p.c))
 (cq:∀X,Below w0.heap.size w0 X->Calls Tryz.prog 37 #[p.qv] X λe w'=>∃v',e= .returned v'/\Below X.heap.size X w'/\w'.ownsRow X.heap.size 78 3 v' qs.length (xg qs))
 (cr:∀X,Below w0.heap.size w0 X->Calls Tryz.prog 38 #[p.lv] X λe w'=>∃v',e= .returned v'/\Below X.heap.size X w'/\w'.ownsRow X.heap.size 80 5 v' l.length (qw l))
 (fin:∀(q r:Value) (tm:Array Value) (X:World),tm.getD 4 undef= .pointer (some ⟨p.bm,0,none⟩)->Below w0.heap.size w0 X->qi X p.bm (hdA p.h p.t p.c) q r qE qE->X.ownsRow w0.heap.size 78 3 q qs.length (xg qs)->X.ownsRow w0.heap.size 80 5 r l.length (qw l)->
  (∀b,q.ownBlock=some b->r.ownBlock≠some b)->Q .normal { a with tmps:=tm} X):
 (Code.region id ops true).wp Tryz.prog Q a w1:=by
 refine Xu (I w0 p qs l) (by kernel_rfl) (by kernel_rfl) ?_ ?_ ?_
 ·refine⟨⟨undef,undef⟩,?_,⟨hB1.drew,nofun,nofun,nofun,λ_=>rfl,λ_=>rfl,λ_=>rfl,λ_=>hm1.below (gJ _ _).drew,nofun⟩⟩
  funext t
  unfold gOf;rw[if_neg (λh=>by cases h.2.2)]
 ·rintro d g w ⟨s,rfl,hJ⟩ i o ho hd hall;have ev:∀(t i:Nat) (v:Value),5<=t/\t<22->t-5=i->d i=true->vOf p s i=some v->(jV a (gOf p s d)).eval (.tmp t)=v:=λt i v h1 h2 h3 h4=>fillA_some (by rw[g_at h1 (h2 ▸ h3),h2,h4]) (by rw[hsz];exact h1.2);have el:∀t:Nat,t<5->(jV a (gOf p s d)).eval (.tmp t)=a.eval (.tmp t):=λt h=>fillA_keep (g_low h);obtain⟨m0,m1,m2,m3,m4,m5,m6,m7,m8,m9,m10,m11,m12,m13⟩:=qi.facts (hm w hJ.below)
  match i,ho,hd,hall with
  | 0,ho,hd,hall=>
    obtain rfl:op0=o:=Hr ho;refine yj rfl rfl rfl (run_field0 ((el 1 (by decide)).trans e1)) ?_;rw[Qt (i:=0) (by omega) rfl rfl];exact⟨s,rfl,hJ.step (gJ _ _) (by decide) (λe=>absurd e (by decide))⟩
  | 1,ho,hd,hall=>
    obtain rfl:op1=o:=Hr ho;have h0:=hall ⟨0,.data⟩ (by simp) rfl;refine yj rfl rfl rfl (J3 (ev 5 0 _ (by omega) rfl h0 rfl) m0) ?_;rw[Qt (i:=1) (by omega) rfl rfl];exact⟨s,rfl,hJ.step (gJ _ _) (by decide) (λe=>absurd e (by decide))⟩
  | 2,ho,hd,hall=>
    obtain rfl:op2=o:=Hr ho;refine yj rfl rfl rfl (run_field2 ((el 1 (by decide)).trans e1)) ?_;rw[Qt (i:=2) (by omega) rfl rfl];exact⟨s,rfl,hJ.step (gJ _ _) (by decide) (λe=>absurd e (by decide))⟩
  | 3,ho,hd,hall=>
    obtain rfl:op3=o:=Hr ho;have h2:=hall ⟨2,.data⟩ (by simp) rfl;refine yj rfl rfl rfl (J3 (ev 7 2 _ (by omega) rfl h2 rfl) m2) ?_;rw[Qt (i:=3) (by omega) rfl rfl];exact⟨s,rfl,hJ.step (gJ _ _) (by decide) (λe=>absurd e (by decide))⟩
  | 4,ho,hd,hall=>
    obtain rfl:op4=o:=Hr ho;refine yj rfl rfl rfl (J3 ((el 2 (by decide)).trans e2) (hc w hJ.below)) ?_;rw[Qt (i:=4) (by omega) rfl rfl];exact⟨s,rfl,hJ.step (gJ _ _) (by decide) (λe=>absurd e (by decide))⟩
  | 5,ho,hd,hall=>
    obtain rfl:op5=o:=Hr ho;have h4:=hall ⟨4,.data⟩ (by simp) rfl;refine yj rfl rfl rfl (run_eql (ev 9 4 _ (by omega) rfl h4 rfl) rfl ht) ?_;rw[Qt (i:=5) (by omega) rfl rfl];exact⟨s,rfl,hJ.step (gJ _ _) (by decide) (λe=>absurd e (by decide))⟩
  | 6,ho,hd,hall=>
    obtain rfl:op6=o:=Hr ho;refine yj rfl rfl rfl (run_field5 ((el 1 (by decide)).trans e1)) ?_;rw[Qt (i:=6) (by omega) rfl rfl];exact⟨s,rfl,hJ.step (gJ _ _) (by decide) (λe=>absurd e (by decide))⟩
  | 7,ho,hd,hall=>
    obtain rfl:op7=o:=Hr ho;have h6:=hall ⟨6,.data⟩ (by simp) rfl;refine yj rfl rfl rfl (run_loadB (ev 11 6 _ (by omega) rfl h6 rfl) m5) ?_;rw[Qt (i:=7) (by omega) rfl rfl];exact⟨s,rfl,hJ.step (gJ _ _) (by decide) (λe=>absurd e (by decide))⟩
  | 8,ho,hd,hall=>
    obtain rfl:op8=o:=Hr ho;refine yj rfl rfl rfl (run_field8 ((el 1 (by decide)).trans e1)) ?_;rw[Qt (i:=8) (by omega) rfl rfl];exact⟨s,rfl,hJ.step (gJ _ _) (by decide) (λe=>absurd e (by decide))⟩
  | 9,ho,hd,hall=>
    obtain rfl:op9=o:=Hr ho;have h8:=hall ⟨8,.data⟩ (by simp) rfl;refine yj rfl rfl rfl (run_loadB (ev 13 8 _ (by omega) rfl h8 rfl) m8) ?_;rw[Qt (i:=9) (by omega) rfl rfl];exact⟨s,rfl,hJ.step (gJ _ _) (by decide) (λe=>absurd e (by decide))⟩
  | 10,ho,hd,hall=>
    obtain rfl:op10=o:=Hr ho;refine yj rfl rfl rfl (J3 ((el 2 (by decide)).trans e2) (hc w hJ.below)) ?_;rw[Qt (i:=10) (by omega) rfl rfl];exact⟨s,rfl,hJ.step (gJ _ _) (by decide) (λe=>absurd e (by decide))⟩
  | 11,ho,hd,hall=>
    obtain rfl:op11=o:=Hr ho;refine yj rfl rfl rfl (run_field10 ((el 1 (by decide)).trans e1)) ?_;rw[Qt (i:=11) (by omega) rfl rfl];exact⟨s,rfl,hJ.step (gJ _ _) (by decide) (λe=>absurd e (by decide))⟩
  | 12,ho,hd,hall=>
    obtain rfl:op12=o:=Hr ho;have h11:=hall ⟨11,.data⟩ (by simp) rfl;refine yj rfl rfl rfl (run_loadQ (ev 16 11 _ (by omega) rfl h11 rfl) (m10.trans (by rw[hq]))) ?_;rw[Qt (i:=12) (by omega) rfl (by rw[<- hq];rfl)];exact⟨s,rfl,hJ.step (gJ _ _) (by decide) (λe=>absurd e (by decide))⟩
  | 13,ho,hd,hall=>
    obtain rfl:op13=o:=Hr ho;have h12:=hall ⟨12,.data⟩ (by simp) rfl;refine ghost_call rfl rfl rfl (run_call1 rfl (λargs=>callFunc_q args w) (ev 17 12 _ (by omega) rfl h12 rfl)) ?_;refine(cq w hJ.below).mono ?_;rintro e w' ⟨v',rfl,hB,ho'⟩;have n16:=hJ.n13 hd;have n17:=hJ.n17 n16;refine⟨_,rfl,?_⟩
    rw[g_nums (s':=⟨v',s.r⟩) (λi hi=>by
     have a1:i≠13:=λe=>by rw[e,hd]at hi;cases hi
     have a2:i≠16:=λe=>by rw[e,n16]at hi;cases hi
     unfold vOf;simp only[if_neg a1,if_neg a2])]
    rw[Qt (i:=13) (by omega) rfl rfl];have e15:xG d 13 15=d 15:=yC _ (by decide);have e16:xG d 13 16=d 16:=yC _ (by decide);have e17:xG d 13 17=d 17:=yC _ (by decide);have hlt:=hJ.lt;refine⟨⟨v',s.r⟩,rfl,hJ.below.trans (hB.mono hJ.below.size),?_,?_,?_,?_,?_,?_,?_,?_⟩ <;> simp only[e15,e16,e17]
    ·intro _;exact⟨qK ho' hJ.below.size,λb hb=>by have:=(ho'.lt b hb).1;omega⟩
    ·intro h2;obtain⟨x,y⟩:=hJ.fr h2;exact⟨ownsRow_below x hB,y⟩
    ·intro _ h2 b hb hb2;have h3:=(ho'.lt b hb).1;have h4:=((hJ.fr h2).1.lt b hb2).2;omega
    ·intro h2;rw[Yb]at h2;cases h2
    ·exact hJ.n15
    ·exact hJ.n17
    ·intro h2;exact(hJ.un h2).below hB
    ·intro h2;rw[n17]at h2;cases h2
  | 14,ho,hd,hall=>
    obtain rfl:op14=o:=Hr ho;refine yj rfl rfl rfl (run_move ((el 0 (by decide)).trans e0)) ?_;rw[Qt (i:=14) (by omega) rfl rfl];exact⟨s,rfl,hJ.step (gJ _ _) (by decide) (λe=>absurd e (by decide))⟩
  | 15,ho,hd,hall=>
    obtain rfl:op15=o:=Hr ho;have h14:=hall ⟨14,.data⟩ (by simp) rfl;refine ghost_call rfl rfl rfl (run_call1 rfl (λargs=>callFunc_r args w) (ev 19 14 _ (by omega) rfl h14 rfl)) ?_;refine(cr w hJ.below).mono ?_;rintro e w' ⟨v',rfl,hB,ho'⟩;have n16:=hJ.n15 hd;have n17:=hJ.n17 n16;refine⟨_,rfl,?_⟩
    rw[g_nums (s':=⟨s.q,v'⟩) (λi hi=>by
     have a1:i≠15:=λe=>by rw[e,hd]at hi;cases hi
     have a2:i≠16:=λe=>by rw[e,n16]at hi;cases hi
     unfold vOf;simp only[if_neg a1,if_neg a2])]
    rw[Qt (i:=15) (by omega) rfl rfl];have e13:xG d 15 13=d 13:=yC _ (by decide);have e16:xG d 15 16=d 16:=yC _ (by decide);have e17:xG d 15 17=d 17:=yC _ (by decide);have hlt:=hJ.lt;refine⟨⟨s.q,v'⟩,rfl,hJ.below.trans (hB.mono hJ.below.size),?_,?_,?_,?_,?_,?_,?_,?_⟩ <;> simp only[e13,e16,e17]
    ·intro h2;obtain⟨x,y⟩:=hJ.fq h2;exact⟨ownsRow_below x hB,y⟩
    ·intro _;exact⟨qK ho' hJ.below.size,λb hb=>by have:=(ho'.lt b hb).1;omega⟩
    ·intro h2 _ b hb hb2;have h3:=(ho'.lt b hb2).1;have h4:=((hJ.fq h2).1.lt b hb).2;omega
    ·exact hJ.n13
    ·intro h2;rw[Yb]at h2;cases h2
    ·exact hJ.n17
    ·intro h2;exact(hJ.un h2).below hB
    ·intro h2;rw[n17]at h2;cases h2
  | 16,ho,hd,hall=>
    obtain rfl:op16=o:=Hr ho;have h1:=hall ⟨1,.data⟩ (by simp) rfl;have h3:=hall ⟨3,.data⟩ (by simp) rfl;have h5:=hall ⟨5,.data⟩ (by simp) rfl;have h7:=hall ⟨7,.data⟩ (by simp) rfl;have h9:=hall ⟨9,.data⟩ (by simp) rfl;have h10:=hall ⟨10,.data⟩ (by simp) rfl;have h13:=hall ⟨13,.data⟩ (by simp) rfl;have h15:=hall ⟨15,.data⟩ (by simp) rfl;obtain⟨aq,cq',hqv,-⟩:=qj (hJ.fq h13).1;obtain⟨ar,cr',hrv,-⟩:=qj (hJ.fr h15).1;refine yj rfl rfl rfl (run_build (ev 6 1 _ (by omega) rfl h1 rfl) rfl (ev 8 3 _ (by omega) rfl h3 rfl) (ev 10 5 _ (by omega) rfl h5 rfl) (ev 12 7 _ (by omega) rfl h7 rfl) (ev 14 9 _ (by omega) rfl h9 rfl) (ev 15 10 _ (by omega) rfl h10 rfl) ((ev 18 13 _ (by omega) rfl h13 rfl).trans hqv) ((ev 20 15 _ (by omega) rfl h15 rfl).trans hrv)) ?_;rw[<- hqv,<- hrv,Qt (i:=16) (by omega) rfl rfl];exact⟨s,rfl,hJ.step (gJ _ _) (by decide) (λ_=>⟨h13,h15⟩)⟩
  | 17,ho,hd,hall=>
    obtain rfl:op17=o:=Hr ho;have h16:=hall ⟨16,.data⟩ (by simp) rfl
    have h13:d 13=true:=by cases e:d 13;· rw[hJ.n13 e]at h16;cases h16
                           ·rfl
    have h15:d 15=true:=by cases e:d 15;· rw[hJ.n15 e]at h16;cases h16
                           ·rfl
    obtain⟨oq,bq⟩:=hJ.fq h13;obtain⟨or,br⟩:=hJ.fr h15;obtain⟨aq,cq',hqv,-⟩:=qj oq;obtain⟨ar,cr',hrv,-⟩:=qj or;obtain⟨W,hrun,hMB,hg⟩:=run_store (dst:=none) (ty:=0) (pos:=op17.pos) (af:=op17.after) (gd:=none) (h:=hdA p.h p.t p.c) ((el 4 (by decide)).trans e4) ((ev 21 16 _ (by omega) rfl h16 rfl).trans (by rw[hqv,hrv])) (hJ.un hd);refine ghost_skip rfl rfl rfl hrun ?_;rw[g_skip];have e13:xG d 17 13=d 13:=yC _ (by decide);have e15:xG d 17 15=d 15:=yC _ (by decide);have e16:xG d 17 16=d 16:=yC _ (by decide);have hbm:w0.heap.size<=p.bm:=hbm0;have kq:W.ownsRow w0.heap.size 78 3 s.q qs.length (xg qs):=qm oq λb hb=>hg.block b (oq.lt b hb).2 (by simp only[ne_eq,gM];exact bq b hb);have kr:W.ownsRow w0.heap.size 80 5 s.r l.length (qw l):=qm or λb hb=>hg.block b (or.lt b hb).2 (by simp only[ne_eq,gM];exact br b hb);refine⟨s,rfl,hJ.below.grown hg hJ.below.size (λj hj=>by simp only[gM]at hj;omega),?_,?_,?_,?_,?_,?_,?_,?_⟩ <;> (try simp only[e13,e15,e16])
    ·intro _;exact⟨kq,bq⟩
    ·intro _;exact⟨kr,br⟩
    ·exact hJ.ap
    ·exact hJ.n13
    ·exact hJ.n15
    ·intro h2;rw[h16]at h2;cases h2
    ·intro h2;rw[Yb]at h2;cases h2
    ·intro _;rw[hqv,hrv];exact hMB
  | i+18,ho,_,_=>simp at ho
 ·rintro d g X ⟨s,rfl,hJ⟩ hd;have h13:=hd 13 (by decide);have h15:=hd 15 (by decide)
  have:=fin s.q s.r (jV a (gOf p s d)).tmps X (by
   have h:=fillA_keep (a:=a) (g:=gOf p s d) (t:=4) (g_low (by decide));exact h.trans e4) hJ.below (hJ.st (hd 17 (by decide))) (hJ.fq h13).1 (hJ.fr h15).1 (hJ.ap h13 h15)
  exact this
end on
theorem one_any (bo bc:Nat)(h:Hd)(qs:List Qn)(hq:qs.length<=1000000000000)(q a u d:Value)(fq:zx q)(c:Int)(l:List Rec)(hl:l.length<=1000000)(v:Value)(hf:zx v)(w:World)(hm:qi w bo h q a u d)(hc:w.cell? ⟨bc,0,none⟩=some (.int .i64 c))(hcl:bc<w.heap.size)
 (rq:yw w q qs) (hrv:ql w v l):
 Calls Tryz.prog 36 #[v,.pointer (some ⟨bo,0,none⟩),.pointer (some ⟨bc,0,none⟩)] w λe w'=>OnePost h (c == 0) c qs l w e w':=by
 obtain⟨w1,hw1⟩:=yM (w.alloc (.cells (yT hd0 qE qE qE qE).toArray 33));obtain⟨hB1,hs1,hm1⟩:=zG hw1;obtain⟨bm,hbm⟩:=yM w.heap.size;rw[<- hbm]at hm1;obtain⟨qa,qc,rfl,-⟩:=id rq;obtain⟨va,vc,rfl,-⟩:=id hrv;have HR:=qe hm1;have HM:=qe hm;have HW1:=qe hw1;have HBM:=qe hbm;have HB1:=qe hB1;have HC:=qe hc;have HCL:=qe hcl;have HRQ:=qe rq;have HRV:=qe hrv;have HF:=qe hf;have HFQ:=qe fq;have HQ:=qe hq;have HL:=qe hl;clear hw1 hB1 hs1 hm1 hbm hm hc hcl rq hrv hf fq hq hl
 go_enter Tryz.func36,Tryz.ntmps36
 go_upto_region 1 with fail;rw[<- HW1.out,<- HBM.out]
 refine on.region (p:=⟨bo,bc,bm,h,c == 0,c,.slice qa qs.length qc,.slice va l.length vc⟩) (qs:=qs) (l:=l) (w0:=w) (a0:=a) (u0:=u) (d0:=d) rfl rfl rfl rfl rfl rfl rfl (Nat.le_of_eq HBM.out.symm) HB1.out HR.out (λX hX=>HM.out.below hX) (λX hX=>(hX.cell (p:=⟨bc,0,none⟩) HCL.out).trans HC.out)
  (λX hX=>cloneQns_any qs (by have:=HQ.out;omega) _ HFQ.out X (HRQ.out.below hX)) (λX hX=>kX l (by have:=HL.out;omega) _ HF.out X (HRV.out.below hX)) ?_
 intro q r tm X h4 hB hMB hoq hor hap;go_wp2_with fail
 (try simp only[Exit.inBlock,Exit.then])
 exact msg_ret rfl h4 rfl hMB ⟨q,r,rfl,hB,hoq,hor,hap⟩
attribute [local go_sem] Oper.semAt_some
def ApartP (P:List (Value×Value)):Prop:=P.Pairwise (λp p'=>∀b,(p.1.ownBlock=some b\/p.2.ownBlock=some b)->p'.1.ownBlock≠some b/\p'.2.ownBlock≠some b)/\∀p∈P,∀b,p.1.ownBlock=some b->p.2.ownBlock≠some b
def uK (base:Nat)(w:World)(v:Value)(h:Hd)(qs:List Qn)(L:List (List Rec)):Prop:=∃P:List (Value×Value),P.length=L.length/\w.ownsRow base 33 14 v P.length (Kz h P)/\
 (∀k (h1:k<P.length) (h2:k<L.length),w.ownsRow base 78 3 P[k].1 qs.length (xg qs)/\w.ownsRow base 80 5 P[k].2 L[k].length (qw L[k]))/\ApartP P/\
 ∀b,v.ownBlock=some b->∀p∈P,p.1.ownBlock≠some b/\p.2.ownBlock≠some b
theorem uK.keep {base:Nat}{w w':World}{v:Value}{h:Hd}{qs:List Qn}{L:List (List Rec)}(hA:uK base w v h qs L)(hk:∀b,base<=b->b<w.heap.size->(∃t c x,w.heap[b]? =some (.cells t c x))->w'.heap[b]? =w.heap[b]?):uK base w' v h qs L:=by
 obtain⟨P,h1,h2,h3,h4,h5⟩:=hA
 have ho:∀{e:TypeId} {s:Nat} {u:Value} {n:Nat} {xs:List Value},w.ownsRow base e s u n xs->w'.ownsRow base e s u n xs:=λh=>qm h λb hb=>by
  rcases h.2 with⟨rfl,_⟩|⟨g,cap,cur,rfl,h1,h2,_⟩
  ·cases hb
  ·simp only[Value.ownBlock,gM]at hb;subst hb;exact hk _ h1 (qA h2) ⟨_,_,_,h2⟩
 exact⟨P,h1,ho h2,λk a b=>⟨ho (h3 k a b).1,ho (h3 k a b).2⟩,h4,h5⟩
theorem uK.below {base:Nat}{w w':World}{v:Value}{h:Hd}{qs:List Qn}{L:List (List Rec)}(hA:uK base w v h qs L)(hB:Below w.heap.size w w'):uK base w' v h qs L:=hA.keep λb _ h2 _=>hB.block b h2
theorem uK.QK {base base':Nat}{w:World}{v:Value}{h:Hd}{qs:List Qn}{L:List (List Rec)}(hA:uK base w v h qs L)(hb:base'<=base):uK base' w v h qs L:=by
 obtain⟨P,h1,h2,h3,h4,h5⟩:=hA;exact⟨P,h1,qK h2 hb,λk a b=>⟨qK (h3 k a b).1 hb,qK (h3 k a b).2 hb⟩,h4,h5⟩
theorem ansOwn_nil (base:Nat)(w:World)(h:Hd)(qs:List Qn):uK base w (.slice none 0 0) h qs []:=
 ⟨[],rfl,gZ _ _ _ _,λk h1=>absurd h1 (Nat.not_lt_zero _),⟨List.Pairwise.nil,λp hp=>absurd hp (by simp)⟩,λb hb=>by cases hb⟩
theorem msgs_append (base:Nat)(w w0:World)(h:Hd)(qs:List Qn)(L:List (List Rec))(l:List Rec)(v:Value)(hA:uK base w0 v h qs L)(hL:L.length<=1000)(w1:World)(hB:Below w0.heap.size w0 w1)(q r:Value)(hq:w1.ownsRow w0.heap.size 78 3 q qs.length (xg qs))(hr:w1.ownsRow w0.heap.size 80 5 r l.length (qw l))
 (hap:∀b,q.ownBlock=some b->r.ownBlock≠some b) (hb:base<=w0.heap.size) (hw:w=w1.alloc (.cells (yT h q r (.slice none 0 0) (.slice none 0 0)).toArray 33)):
 ∃v' w',(Builtin.append_ #[23,23] 23 #[v,.slice (some ⟨w1.heap.size,0,none⟩) 1 1]).run Tryz.prog w= .ok v' w'/\uK base w' v' h qs (L ++ [l])/\w.grownBy w' v.ownBlock/\
  (∀b,v.ownBlock=some b->base<=b/\b<w0.heap.size/\∃t c x,w0.heap[b]? =some (.cells t c x)):=by
 obtain⟨P,h1,h2,h3,h4,h5⟩:=hA;obtain⟨i0,hi0,hz0,hz1,hz2⟩:=Qo info_msg7;have hBw:Below w1.heap.size w1 w:=by rw[hw];exact(gJ _ _).alloc (gI _) _
 have hB2:Below w0.heap.size w0 w:=gm hB hBw;have hsz:w.heap.size=w1.heap.size+1:=by rw[hw];simp
 have ho:=ownsRow_below h2 hB2;have hnews:∀j u,(yT h q r (.slice none 0 0) (.slice none 0 0))[j]? =some u->w.cell? ((⟨w1.heap.size,0,none⟩:Addr).add j)=some u:=by rw[hw];exact ve w1 _ _
 have hlim:P.length<=1000:=by omega
 obtain⟨qa,qc,rfl,-⟩:=qj hq;obtain⟨ra,rc,rfl,-⟩:=qj hr;have hone:∀u∈yT h (.slice qa qs.length qc) (.slice ra l.length rc) (.slice none 0 0) (.slice none 0 0),u.oneCell'=true:=by simp[Value.oneCell']
 obtain⟨v',w',hrun,k1,k2,_⟩:=run_append_own (P:=Tryz.prog) w base 23 23 33 i0 (yu hd0 (.slice none 0 0) (.slice none 0 0) (.slice none 0 0) (.slice none 0 0)) 14 136 Tryz.underlying23 hi0 hz0 hz1 hz2 rfl (by decide) v P.length (Kz h P) ho ⟨w1.heap.size,0,none⟩ 1 1 (yT h (.slice qa qs.length qc) (.slice ra l.length rc) (.slice none 0 0) (.slice none 0 0)) rfl hnews hone (by unfold maxLen;omega) (by omega) (gQ hb hB2.size);have k3:=QU w base 23 23 33 i0 (yu hd0 (.slice none 0 0) (.slice none 0 0) (.slice none 0 0) (.slice none 0 0)) 14 136 Tryz.underlying23 hi0 hz0 hz1 hz2 v P.length (Kz h P) ho ⟨w1.heap.size,0,none⟩ 1 1 (yT h (.slice qa qs.length qc) (.slice ra l.length rc) (.slice none 0 0) (.slice none 0 0)) rfl hnews hone (by unfold maxLen;omega) (by omega) hrun;refine⟨v',w',hrun,⟨P ++ [(.slice qa qs.length qc,.slice ra l.length rc)],by simp[h1],?_,λk a b=>?_,⟨?_,?_⟩,?_⟩,k2,λb hbv=>⟨(h2.lt b hbv).1,(h2.lt b hbv).2,?_⟩⟩
 ·rw[msgsC_app,gK,gT];exact k1
 ·have keep:∀{e:TypeId} {s:Nat} {u:Value} {n:Nat} {xs:List Value} {bs:Nat},w.ownsRow bs e s u n xs->(∀b,u.ownBlock=some b->v.ownBlock≠some b)->w'.ownsRow bs e s u n xs:=λh hne=>qm h λb hb=>k2.block b (h.lt b hb).2 (λe=>hne b hb e.symm);by_cases hk:k<P.length
  ·have e1:(P ++ [(Value.slice qa qs.length qc,Value.slice ra l.length rc)])[k]=P[k]:=List.getElem_append_left hk;have e2:(L ++ [l])[k]=L[k]'(by omega):=List.getElem_append_left (by omega);rw[e1,e2];obtain⟨o1,o2⟩:=h3 k hk (by omega);have hm:=Ht hk;exact⟨keep (ownsRow_below o1 hB2) λb hb hv=>(h5 b hv _ hm).1 hb,keep (ownsRow_below o2 hB2) λb hb hv=>(h5 b hv _ hm).2 hb⟩
  ·have ek:k=P.length:=by simp at a;omega
   subst ek;have e1:(P ++ [(Value.slice qa qs.length qc,Value.slice ra l.length rc)])[P.length]=(Value.slice qa qs.length qc,Value.slice ra l.length rc):=by simp
   have e2:(L ++ [l])[P.length]=l:=by simp[h1]
   rw[e1,e2];exact⟨qK (keep (ownsRow_below hq hBw) λb hb hv=>by have h7:=(hq.lt b hb).1;have h8:=(h2.lt b hv).2;omega) hb,qK (keep (ownsRow_below hr hBw) λb hb hv=>by have h7:=(hr.lt b hb).1;have h8:=(h2.lt b hv).2;omega) hb⟩
 ·refine List.pairwise_append.2 ⟨h4.1,List.pairwise_singleton _ _,λp hp p' hp' b hb=>?_⟩;rw[List.mem_singleton.1 hp'];obtain⟨k,hk,rfl⟩:=List.getElem_of_mem hp;obtain⟨o1,o2⟩:=h3 k hk (by omega);have hlt:b<w0.heap.size:=hb.elim (λh=>(o1.lt b h).2) (λh=>(o2.lt b h).2);exact⟨λh=>by have:=(hq.lt b h).1;omega,λh=>by have:=(hr.lt b h).1;omega⟩
 ·intro p hp;rcases List.mem_append.1 hp with h | h
  ·exact h4.2 p h
  ·rw[List.mem_singleton.1 h];exact hap
 ·intro b hbv p hp;rcases List.mem_append.1 hp with h | h
  ·obtain⟨k,hk,rfl⟩:=List.getElem_of_mem h;obtain⟨o1,o2⟩:=h3 k hk (by omega);rcases k3 b hbv with h6 | h6
   ·exact h5 b h6 _ h
   ·have h9:=hB2.size;exact⟨λh=>by have:=(o1.lt b h).2;omega,λh=>by have:=(o2.lt b h).2;omega⟩
  ·rw[List.mem_singleton.1 h];rcases k3 b hbv with h6 | h6
   ·have h7:=(h2.lt b h6).2;exact⟨λh=>by have:=(hq.lt b h).1;omega,λh=>by have:=(hr.lt b h).1;omega⟩
   ·exact⟨λh=>by have:=(hq.lt b h).2;omega,λh=>by have:=(hr.lt b h).2;omega⟩
 ·rcases h2.2 with⟨rfl,_⟩|⟨g,cap,cur,rfl,h6,h7,_⟩
  ·cases hbv
  ·simp only[Value.ownBlock,gM]at hbv;subst hbv;exact⟨_,_,_,h7⟩
def Y0 (L:List Msg)(qs:List Qn)(w:World)(e:Ending)(w':World):Prop:=∃h P v,L=tr.YP h qs P/\P.length<=200/\(∀p∈P,p.length<=16)/\e= .returned v/\Below w.heap.size w w'/\uK w.heap.size w' v h qs P
theorem Xt {L:List Msg}{qs:List Qn}{w w':World}(hL:L= [])(hB:Below w.heap.size w w'):Y0 L qs w (.returned (.slice none 0 0)) w':=by
 subst hL;exact⟨hd0,[],_,rfl,by simp,λp hp=>absurd hp (by simp),rfl,hB,ansOwn_nil _ _ _ _⟩
theorem store_fn {w:World}{b f x y:Nat}{v0:Value}(hc:w.cell? ⟨b,0,none⟩=some v0)(hz:w.frozen? ⟨b,0,none⟩=false):(store ⟨b,0,none⟩ (.func (.func f) #[] #[.pointer (some ⟨x,0,none⟩),.pointer (some ⟨y,0,none⟩)])).run Tryz.prog w= .ok () (w.setCell ⟨b,0,none⟩ (.func (.func f) #[] #[.pointer (some ⟨x,0,none⟩),.pointer (some ⟨y,0,none⟩)])):=by
 rw[Go.run_store _ _ _ _ _ rfl,hc,hz];rfl
theorem ans_leaveD {n D:Nat}{L:List Msg}{qs:List Qn}{w:World}{a:Act}{X:World}{v:Value}(h4:a.tmps.getD 4 undef=v)(hd:a.defers= [{ target:=.collected D,args:=#[]}])(hwD:w.heap.size<=D)(hK:X.heap[D]? =some (.deferred (some [])))
 (hR:Y0 L qs w (.returned v) X):bodyPostM Fence.wide n Tryz.prog Tryz.f11 (λe w'=>Y0 L qs w e w') .ret a X:=by
 subst h4;show LeavesInM Fence.wide n Tryz.prog _ a.tmps _ a.defers .returning X;rw[hd];have hg:=grownBy_putObj' X D (.deferred none);have hr:∀r,some D=some r->∃o:Obj,X.heap[r]? =some o/\o.isCells=false:=λr e=>by cases e;exact⟨_,hK,rfl⟩
 refine⟨by simp,.inl ⟨_,_,rfl,run_takeDeferred hK,?_⟩⟩;obtain⟨h',P,v',hL,hP1,hP2,he,hB,hA⟩:=hR;refine⟨_,results_tmp rfl _ _ _,h',P,v',hL,hP1,hP2,he,hB.trans (belowK_b (w:=w) (gI _) X D _ _ hwD hK rfl rfl),hA.keep λb _ _ h3=>?_⟩;obtain⟨t,c,x,h3⟩:=h3;exact grownBy_keeps_cells hg hr h3 rfl
def partAt (R:List Rec)(n:Nat)(x:{ k:Nat // k<n}):List Rec:=tr.uh R x.1
theorem JL {n:Nat}{R:Ending->World->Prop}{a:Act}{X:World}{v:Value}(h4:a.tmps.getD 4 undef=v)(hd:a.defers= [])(hR:R (.returned v) X):bodyPostM Fence.wide n Tryz.prog Tryz.f11 R .ret a X:=by
 subst h4;exact bodyM_ret (results_tmp rfl _ _ _) hd hR
def AnsIn (w5 w9:World)(k8:Nat)(hd:Hd)(qs:List Qn)(R:List Rec)(N:Nat)(pre:List { k:Nat // k<N})(X:World):Prop:=
 ∃ov,X.cell? ⟨k8,0,none⟩=some ov/\X.frozen? ⟨k8,0,none⟩=false/\uK w9.heap.size X ov hd qs (pre.map (partAt R N))/\Below w5.heap.size w5 X/\w9.heap.size<=X.heap.size
theorem ansIn_own {w5 w9:World}{k8:Nat}{hd:Hd}{qs:List Qn}{R:List Rec}{N:Nat}(hs:w5.heap.size<=w9.heap.size):OwnFrom w9.heap.size (AnsIn w5 w9 k8 hd qs R N):=by
 rintro pre A B row ⟨ov,c8,f8,hA,hB,hz⟩ hg hr;have hr2:∀r,row=some r->∃o:Obj,A.heap[r]? =some o/\o.isCells=false:=λr e=>(hr r e).2;refine⟨ov,cell_kept c8 hg hr2,(frozen_kept c8 hg hr2).trans f8,hA.keep λb _ _ h3=>?_,ownFrom_below (β:=Unit) (gI _) hs () A B row hB hg hr,gQ hz hg.size⟩;obtain⟨t,c,x,h3⟩:=h3;exact grownBy_keeps_cells hg hr2 h3 rfl
theorem ans_more (w5 w9 X wO:World)(k7 k8 kB kN:Nat)(hd:Hd)(qs:List Qn)(R:List Rec)(N:Nat)(pre:List { k:Nat // k<N})(x:{ k:Nat // k<N})(ov fv:Value)(c8:X.cell? ⟨k8,0,none⟩=some ov)(f8:X.frozen? ⟨k8,0,none⟩=false)
 (hA:uK w9.heap.size X ov hd qs (pre.map (partAt R N))) (hB:Below w5.heap.size w5 X) (hs:w9.heap.size<=X.heap.size) (x7:X.cell? ⟨k7,0,none⟩=some fv) (hl8:w5.heap.size<=k8/\k8<w9.heap.size/\k8≠kB/\k8≠kN) (hX:k8<X.heap.size/\kB<w9.heap.size/\kN<w9.heap.size) (h7:k7<X.heap.size)
 (hPL:(pre.map (partAt R N)).length<=1000) (hO:Below X.heap.size X wO) (qO rO:Value) (hq:wO.ownsRow X.heap.size 78 3 qO qs.length (xg qs)) (hr:wO.ownsRow X.heap.size 80 5 rO (partAt R N x).length (qw (partAt R N x)))
 (hap:∀b,qO.ownBlock=some b->rO.ownBlock≠some b):
 ∃W2 va vn vc wN,W2=wO.alloc (.cells (yT hd qO rO (.slice none 0 0) (.slice none 0 0)).toArray 33)/\(Builtin.append_ #[23,23] 23 #[ov,.slice (some ⟨wO.heap.size,0,none⟩) 1 1]).run Tryz.prog W2= .ok (.slice va vn vc) wN/\wO.cell? ⟨k7,0,none⟩=some fv/\
  wO.cell? ⟨k8,0,none⟩=some ov/\wO.frozen? ⟨k8,0,none⟩=false/\W2.cell? ⟨k8,0,none⟩=some ov/\wN.cell? ⟨k8,0,none⟩=some ov/\wN.frozen? ⟨k8,0,none⟩=false/\
   Hid (KeepsOthers X (wN.setCell ⟨k8,0,none⟩ (.slice va vn vc))/\(ze kB X (wN.setCell ⟨k8,0,none⟩ (.slice va vn vc))/\ze kN X (wN.setCell ⟨k8,0,none⟩ (.slice va vn vc)))/\AnsIn w5 w9 k8 hd qs R N (pre ++ [x]) (wN.setCell ⟨k8,0,none⟩ (.slice va vn vc))):=by
 obtain⟨W2,hW2⟩:=yM (wO.alloc (.cells (yT hd qO rO (.slice none 0 0) (.slice none 0 0)).toArray 33));obtain⟨vN,wN,hrun,hAN,hg,hov⟩:=msgs_append w9.heap.size W2 X hd qs (pre.map (partAt R N)) (partAt R N x) ov hA hPL wO hO qO rO hq hr hap hs hW2;obtain⟨va,vn,vc,rfl⟩:∃va vn vc,vN= .slice va vn vc:=by
  obtain⟨_,_,h2,_⟩:=id hAN;obtain⟨a,c,e,_⟩:=qj h2;exact⟨a,_,c,e⟩
 have hOW:Below wO.heap.size wO W2:=by rw[hW2];exact(gJ _ _).alloc (gI _) _
 have hXW:=gm hO hOW;have c8O:=(hO.cell (p:=⟨k8,0,none⟩) hX.1).trans c8;have f8O:wO.frozen? ⟨k8,0,none⟩=false:=(World.frozen?_of_block (w:=X) (a:=⟨k8,0,none⟩) (hO.block k8 hX.1)).trans f8;have c8W:=(hXW.cell (p:=⟨k8,0,none⟩) hX.1).trans c8;have f8W:W2.frozen? ⟨k8,0,none⟩=false:=(World.frozen?_of_block (w:=X) (a:=⟨k8,0,none⟩) (hXW.block k8 hX.1)).trans f8;have hne:∀b,b<w9.heap.size->some b≠ov.ownBlock:=λb hb e=>by have:=(hov b e.symm).1;omega
 have hbN:∀b,b<X.heap.size->b<w9.heap.size->wN.heap[b]? =X.heap[b]?:=λb h1 h2=>(hg.block b (gN h1 hXW.size) (hne b h2)).trans (hXW.block b h1);have c8N:wN.cell? ⟨k8,0,none⟩=some ov:=(World.cell?_of_block (w:=X) (a:=⟨k8,0,none⟩) (hbN k8 hX.1 hl8.2.1)).trans c8;have f8N:wN.frozen? ⟨k8,0,none⟩=false:=(World.frozen?_of_block (w:=X) (a:=⟨k8,0,none⟩) (hbN k8 hX.1 hl8.2.1)).trans f8;refine⟨W2,va,vn,vc,wN,hW2,hrun,(hO.cell (p:=⟨k7,0,none⟩) h7).trans x7,c8O,f8O,c8W,c8N,f8N,qe ⟨?_,⟨?_,?_⟩,.slice va vn vc,World.cell?_setCell_same' _ _ _ (by rw[c8N];rfl),by rw[World.frozen?_setCell];exact f8N,?_,?_,?_⟩⟩
 ·refine((uj hXW).trans (KeepsOthers.of_grownBy hg λj o e h=>?_)).trans (KeepsOthers.setCell _ _ _);obtain⟨_,h2,t,c,y,h3⟩:=hov j e;rw[hXW.block j h2,h3]at h;obtain rfl:=Hr h;rfl
 ·exact(gP _ _ _ _ (λe=>hl8.2.2.1 e.symm)).trans (hbN kB (gN hX.2.1 hs) hX.2.1)
 ·exact(gP _ _ _ _ (λe=>hl8.2.2.2 e.symm)).trans (hbN kN (gN hX.2.2 hs) hX.2.2)
 ·rw[List.map_append,List.map_singleton];exact hAN.keep λb h1 _ _=>gP _ _ _ _ (show b≠k8 by omega)
 ·have h5:=hB.size;refine((hB.trans (hXW.mono h5)).grown hg (gQ h5 hXW.size) λj hj=>?_).setCell (p:=⟨k8,0,none⟩) hl8.1 _;have:=(hov j hj).1;omega
 ·have h1:=hXW.size;have h2:=hg.size;simp only[World.size_setCell];omega
theorem answer_any (base h:Nat)(zs:List Nat)(H:List tr.Zn)(h0:0<zs.length)(h8:zs.length<=8)(hi:Int)(rs:Bool)(op:Int)(b3 b4 b5 b6 b7 b8:Bool)(rc:Int)(qs:List Qn)(an au ad:List Rec)
 (hq:qs.length<=1000000000000) (ha:an.length<=1000000000000) (hu:au.length<=1000000000000) (hd:ad.length<=1000000000000)
 (q a u d:Value) (fq:zx q) (w:World) (hh:xE w base h zs) (hz:KI w zs H) (rq:yw w q qs) (ra:ql w a an) (ru:ql w u au) (rd:ql w d ad):
 Calls Tryz.prog 11 #[.pointer (some ⟨h,0,none⟩),yu ⟨hi,rs,op,b3,b4,b5,b6,b7,b8,rc⟩ q a u d] w λe w'=>Y0 (tr.QG H ⟨⟨hi,rs,op,b3,b4,b5,b6,b7,b8,rc⟩,qs,an,au,ad⟩) qs w e w':=by
 obtain⟨w1,hw1⟩:=yM (w.alloc (.cells (yT ⟨hi,rs,op,b3,b4,b5,b6,b7,b8,rc⟩ q a u d).toArray 33));obtain⟨hB1,hs1,hm1⟩:=zG hw1;obtain⟨bm,hbm⟩:=yM w.heap.size;rw[<- hbm]at hm1;have hsm:(tr.qR H).l.length<=2000:=by
  have h1:=hz.1;unfold tr.qR;rw[tr.Qd (by omega)];exact(hz.2 (H.length-1) (by omega) (by omega)).1.small
 have hrf:=tr.rowA_facts H op qs au hsm;have HCK:=qe (XZ ⟨hi,rs,op,b3,b4,b5,b6,b7,b8,rc⟩ qs an au ad hq ha hu hd q a u d w1 (rq.below hB1) (ra.below hB1) (ru.below hB1) (rd.below hB1));have HRW:=qe (show wi.jL ⟨hi,rs,op,b3,b4,b5,b6,b7,b8,rc⟩ qs an au ad=true->∀X,Below w.heap.size w X->Calls Tryz.prog 35 #[.pointer (some ⟨h,0,none⟩),yu ⟨hi,rs,op,b3,b4,b5,b6,b7,b8,rc⟩ q a u d] X λe w'=>Kg (tr.yS H op qs au) X e w' from λhmb X hX=>
  hrow_any base h zs H h0 h8 hi rs op b3 b4 b5 b6 b7 b8 rc qs an au ad hmb q a u d X (hh.below hX) (hz.below hX) (rq.below hX) (ra.below hX) (ru.below hX) (rd.below hX))
 have HONE:=qe (show ∀(bc:Nat) (c:Int) (l:List Rec),l.length<=1000000->∀(v:Value),zx v->∀X,Below w1.heap.size w1 X->X.cell? ⟨bc,0,none⟩=some (.int .i64 c)->bc<X.heap.size->ql X v l->
  Calls Tryz.prog 36 #[v,.pointer (some ⟨bm,0,none⟩),.pointer (some ⟨bc,0,none⟩)] X λe w'=>OnePost ⟨hi,rs,op,b3,b4,b5,b6,b7,b8,rc⟩ (c == 0) c qs l X e w' from λbc c l hl v hf X hX hc hcl hr=>
  one_any bm bc _ qs hq q a u d fq c l hl v hf X (hm1.below hX) hc hcl (rq.below (gm hB1 hX)) hr)
 obtain⟨qa,qc,rfl,-⟩:=id rq;obtain⟨aa,ac,rfl,-⟩:=id ra;obtain⟨ua,uc,rfl,-⟩:=id ru;obtain⟨da,dc,rfl,-⟩:=id rd;have HM:=qe hm1;have HW1:=qe hw1;have HBM:=qe hbm;have HB1:=qe hB1;have HRF:=qe hrf;clear hw1 hB1 hs1 hm1 hbm hsm hrf hh hz rq ra ru rd fq hq ha hu hd h0 h8;obtain⟨m0,m1,m2,m3,m4,m5,m6,m7,m8,m9,m10,m11,m12,m13⟩:=HM.out.facts;refine(callsIn_wide (n:=9)).1 ?_;refine callsIn_of_wp_marks Tryz.func11 rfl trivial ?_ rfl;refine wpIn_wide.2 ?_;simp only[Tryz.ntmps11,List.size_toArray,Ha,List.length_nil,Nat.reduceAdd,Nat.reduceSub,Array.replicate_succ,Array.replicate_zero,List.push_toArray,List.append_toArray,List.nil_append,List.cons_append];go_upto_region 1 with fail;rw[<- HW1.out,<- HBM.out]
 cases rs
 ·obtain⟨mb,hmb⟩:=yM (wi.jL ⟨hi,false,op,b3,b4,b5,b6,b7,b8,rc⟩ qs an au ad);rw[<- hmb]at HCK HRW;have HMBB:=qe hmb;clear hmb;go_wp2_with fail;refine HCK.out.mono ?_;rintro e w2 ⟨rfl,hB2⟩;have HB2:=qe hB2;have ZZ:=qe (gm HB1.out hB2);clear hB2 m0 m1 m2 m3 m4 m5 m6 m7 m8 m9 m10 m11 m12 m13
  cases mb
  ·have HL:=qe (show tr.QG H ⟨⟨hi,false,op,b3,b4,b5,b6,b7,b8,rc⟩,qs,an,au,ad⟩= [] from if_pos (.inr HMBB.out.symm));have d0:(wi.okI false != 0)=true:=rfl;go_wp2_with fail
   (try simp only[Exit.inBlock,Exit.then])
   exact JL rfl rfl (Xt HL.out ZZ.out)
  ·have HL:=qe (show tr.QG H ⟨⟨hi,false,op,b3,b4,b5,b6,b7,b8,rc⟩,qs,an,au,ad⟩=tr.YP (hdA ⟨hi,false,op,b3,b4,b5,b6,b7,b8,rc⟩ ((tr.yS H op qs au).2 == 0) (tr.yS H op qs au).2) qs (tr.kK (tr.yS H op qs au).1 (tr.Yp (tr.yS H op qs au).1)) from if_neg (by rw[<- HMBB.out];simp));have d0:(wi.okI true != 0)=false:=rfl;obtain⟨m0,m1,m2,m3,m4,m5,m6,m7,m8,m9,m10,m11,m12,m13⟩:=(HM.out.below HB2.out).facts;go_wp2_with fail;refine(HRW.out (by trivial) w2 ZZ.out).mono ?_;rintro e w3 ⟨v3,rfl,hB3,hO3⟩;obtain⟨R,hR⟩:=yM ((tr.yS H op qs au).1);obtain⟨c,hc⟩:=yM ((tr.yS H op qs au).2);rw[<- hR,<- hc]at HL HRF;rw[<- hR]at hO3;rw[<- hc];obtain⟨al,cl,rfl,-⟩:=qj hO3;obtain⟨w4,hw4⟩:=yM (w3.alloc (.cells #[.int .i64 c] 3));obtain⟨k6,hk6⟩:=yM w3.heap.size;have hB4:Below w3.heap.size w3 w4:=by rw[hw4];exact(gJ _ _).alloc (gI _) _
   have hn6:w4.heap[k6]? =some (.cells #[.int .i64 c] 3 (0,0)):=by rw[hw4,hk6];exact qz rfl
   obtain⟨w5,hw5⟩:=yM ((w4.alloc (.cells #[.nilFunc] 81)).setCell ⟨w4.heap.size,0,none⟩ (.func (.func 36) #[] #[.pointer (some ⟨bm,0,none⟩),.pointer (some ⟨k6,0,none⟩)]));obtain⟨k7,hk7⟩:=yM w4.heap.size;have hB5:Below w4.heap.size w4 w5:=by rw[hw5];exact((gJ _ _).alloc (gI _) _).setCell (p:=⟨w4.heap.size,0,none⟩) (gI _) _
   have hn7:w5.heap[k7]? =some (.cells #[(.func (.func 36) #[] #[.pointer (some ⟨bm,0,none⟩),.pointer (some ⟨k6,0,none⟩)])] 81 (0,0)):=by rw[hw5,hk7];exact(qC (qz rfl) 0 _).trans rfl
   have hst:(store ⟨w4.heap.size,0,none⟩ (.func (.func 36) #[] #[.pointer (some ⟨bm,0,none⟩),.pointer (some ⟨k6,0,none⟩)])).run Tryz.prog (w4.alloc (.cells #[.nilFunc] 81))= .ok () w5:=by rw[hw5];exact store_fn (zC w4 .nilFunc _).1 (zC w4 .nilFunc _).2
   have QH:=qe (gm ZZ.out hB3);have Ul:=qe (gm HB2.out hB3);have hB35:=gm hB4 hB5;have Jb:=qe (gm QH.out hB35);have HB25:=qe (gm Ul.out hB35);have HO5:=qe (ownsRow_below (qK hO3 ZZ.out.size) hB35)
   have HC6:=qe (show ∀X,Below w5.heap.size w5 X->X.cell? ⟨k6,0,none⟩=some (.int .i64 c)/\k6<X.heap.size from λX hX=>by
    have h1:=(hX.block k6 (gN (qA hn6) hB5.size)).trans ((hB5.block k6 (qA hn6)).trans hn6);exact⟨by rw[qg h1];rfl,qA h1⟩)
   have HX7:=qe (qA hn7);have HC7:=qe (show ∀X,Below w5.heap.size w5 X->X.cell? ⟨k7,0,none⟩=some (.func (.func 36) #[] #[.pointer (some ⟨bm,0,none⟩),.pointer (some ⟨k6,0,none⟩)]) from λX hX=>by rw[qg ((hX.block k7 (qA hn7)).trans hn7)];rfl);have HW4:=qe hw4;have HK6:=qe hk6;have HW5:=qe hw5;have HK7:=qe hk7;have hcf:∀args w,(callFunc 36 args).run Tryz.prog w= .ok (.enter 36 args) w:=λ_ _=>by kernel_rfl
   clear hR hc hB3 hO3 hB4 hn6 hw4 hk6 hw5 hk7 hB5 hn7 hB35 d0 m0 m1 m2 m3 m4 m5 m6 m7 m8 m9 m10 m11 m12 m13;go_upto_region 4 with fail;rw[<- HW4.out,<- HK6.out];go_upto_region 5 with fail;rw[<- HK7.out];clear hst;have x6:=(HC6.out w5 (gJ _ _)).1;have x7:=HC7.out w5 (gJ _ _);rcases HRF.out with⟨hc0,hne,hlen⟩|⟨hnc,hnil⟩
   ·have e1:(c != 0)=false:=by rw[Hy];exact hc0
    have HN:=qe (tr.partN_in hne);have hpos:=List.length_pos_iff.2 hne;obtain⟨g3,cap3,hv,-,-⟩:=HO5.out.form hpos;simp only[gL,true_and]at hv;obtain⟨rfl,rfl⟩:=hv;have hcap:R.length<=cl:=by
     obtain⟨_,_,hv,hc⟩:=qj HO5.out;simp only[gL,true_and]at hv;obtain⟨_,rfl⟩:=hv;exact hc
    obtain⟨t,ht⟩:=yM ((c == 0));obtain⟨hd,hhd⟩:=yM (hdA ⟨hi,false,op,b3,b4,b5,b6,b7,b8,rc⟩ t c);rw[<- ht,<- hhd]at HL;have HHD:=qe hhd;have HT:=qe ht;obtain⟨N,hN⟩:=yM (tr.Yp R);rw[<- hN]at HL HN;obtain⟨w8,hw8⟩:=yM (w5.alloc (.cells #[.slice none 0 0] 23));obtain⟨k8,hk8⟩:=yM w5.heap.size;have hB8:Below w5.heap.size w5 w8:=by rw[hw8];exact(gJ _ _).alloc (gI _) _
    have hn8:w8.heap[k8]? =some (.cells #[.slice none 0 0] 23 (0,0)):=by rw[hw8,hk8];exact qz rfl
    have HW8:=qe hw8;have HK8:=qe hk8;have HLEN:=qe hlen;clear hc0 hne hlen hpos ht hhd hN hw8;go_upto_region 8 with fail;rw[<- HW8.out,<- HK8.out];go_wp2_with fail;refine(chunk_any (some ⟨g3,0,none⟩) R.length cl w8).mono ?_;rintro e w9 ⟨rfl,hw9⟩;obtain⟨kB,hkB⟩:=yM w8.heap.size;obtain⟨kN,hkN⟩:=yM (w8.heap.size+1);rw[<- hkN,<- hkB];have hB9:Below w8.heap.size w8 w9:=by rw[hw9];exact((gJ _ _).alloc (gI _) _).alloc (by simp) _
    have hsz9:w9.heap.size=w8.heap.size+2:=by rw[hw9];simp
    have hnB:w9.cell? ⟨kB,0,none⟩=some (.slice (some ⟨g3,0,none⟩) R.length cl):=by rw[hw9,hkB];exact qx _ (zC w8 _ _).1
    have hnN:w9.cell? ⟨kN,0,none⟩=some (.int .i64 16):=by
     have h1:=(zC (w8.alloc (.cells #[.slice (some ⟨g3,0,none⟩) R.length cl] 31)) (.int .i64 16) 3).1;rw[World.size_alloc,<- hkN]at h1;rw[hw9];exact h1
    have hn8':=(hB9.block k8 (qA hn8)).trans hn8;have hl8:w5.heap.size<=k8/\k8<w9.heap.size/\k8≠kB/\k8≠kN:=by have:=qA hn8;omega
    have hBl:kB<w9.heap.size:=by omega
    have hBm:kN<w9.heap.size:=by omega
    have HB59:=qe (gm hB8 hB9);have HL8:=qe hl8;have hcp:R.length<=1000000:=by have:=HLEN.out;omega
    have hNN:=HN.out;clear hw9 hkB hkN hB9 hsz9 hn8 hl8 x6 x7 hB8 hk8 e1;go_wp2_with fail;refine(wpIn_wide (n:=9)).1 ?_
    refine wpIn_rangeFunc_ownF rfl (by omega) (gf:=71) (lb:=#[.pointer (some ⟨kB,0,none⟩),.pointer (some ⟨kN,0,none⟩)]) rfl trivial (enters_of Tryz.func71 (by kernel_rfl) rfl)
     (chunk_stops Fence.wide (9-1) trivial rfl (by omega) kB kN g3 R.length cl N hcp hcap ⟨hNN.1,hNN.2.1⟩ w9 hBl hBm hnB hnN) (λh1 h2=>⟨uD h1.1 h2.1,uD h1.2 h2.2⟩) (λW l o o' hl h1 h2 h3=>⟨uE hBl W l o o' hl h1 h2 h3,uE hBm W l o o' hl h1 h2 h3⟩) (gJ _ _) (λ_=>rfl)
     (λpre X=>AnsIn w5 w9 k8 hd qs R N pre X) (λ_ _ _=>False) (ansIn_own HB59.out.size) (λ_ _ _ _ _ h _ _=>h)
     ⟨.slice none 0 0,by rw[qg hn8'];rfl,qB hn8' 0,ansOwn_nil _ _ _ _,HB59.out,gI _⟩ ?a1 ?assign ?body ?done ?stop
    case assign=>
     intro l x X K hK;have HKK:=qe hK;clear hK
     gi_wp2
     exact HKK.out
    case body=>
     rintro l pre x X ⟨ov,c8,f8,hA,hB,hs⟩ hlen;obtain⟨xk,hxk⟩:=x;have hf1:Fence.wide.fn 36:=trivial;have x7:=HC7.out X hB;have hRX:=qF (ownsRow_below HO5.out hB);have hpl:=part_eq (l:=R) (k:=xk);have hrp:=recs_part hRX (xk*16) (L:=tr.uh R xk) (c:=(tr.uh R xk).length) (by omega) (λi h=>part_get i h) (gI _)
     have HCO:=qe (HONE.out k6 c (tr.uh R xk) (by have:=tr.part_len R xk;omega) (partV g3 R.length xk) (.inr ⟨_,_,_,_,rfl⟩) X.drew (HB25.out.trans (hB.drew.mono HB25.out.size)) (HC6.out X.drew hB.drew).1 (HC6.out X.drew hB.drew).2 (by
      have e1:partV g3 R.length xk= .slice (some ⟨g3,xk*16*5,none⟩) (tr.uh R xk).length (tr.uh R xk).length:=by unfold partV;rw[hpl]
      rw[e1];exact hrp.below (gJ _ _).drew))
     have HA:=qe hA;have HB:=qe hB;have HS:=qe hs;have HPL:=qe (show(pre.map (partAt R N)).length<=1000 by rw[List.length_map];have:=HLEN.out;omega);clear hA hB hs hlen hRX hpl hrp;have HX:=qe (show k8<X.heap.size/\kB<w9.heap.size/\kN<w9.heap.size by have h1:=HS.out;have h2:=HL8.out.2.1;omega);rw[<- HT.out]at HCO
     gi_wp2
     have HAM:=qe (show ∀(wO:World) (qO rO:Value),Below X.drew.heap.size X.drew wO->wO.ownsRow X.drew.heap.size 78 3 qO qs.length (xg qs)->wO.ownsRow X.drew.heap.size 80 5 rO (tr.uh R xk).length (qw (tr.uh R xk))->(∀b,qO.ownBlock=some b->rO.ownBlock≠some b)->_ from λwO qO rO h1 h2 h3 h4=>
      ans_more w5 w9 X wO k7 k8 kB kN hd qs R N pre ⟨xk,hxk⟩ ov _ c8 f8 HA.out HB.out HS.out x7 HL8.out HX.out (gN HX7.out HB.out.size) HPL.out (Below.trans (B:=X.heap.size) (a:=X) (gJ _ _).drew h1) qO rO h2 h3 h4)
     gi_region_with (gi_at_call 36;(with_reducible refine(ZT HCO.out).mono ?_);rintro e wO ⟨qO,rO,rfl,hbO,hoqO,horO,hapO⟩;rw[<- HHD.out];obtain⟨W2,va,vn,vc,wN,hW2,hrun,x7O,c8O,f8O,c8W,c8N,f8N,HGO⟩:=HAM.out wO qO rO hbO hoqO horO hapO;obtain⟨qOa,qOc,rfl,-⟩:=qj hoqO;obtain⟨rOa,rOc,rfl,-⟩:=qj horO;rw[hW2]at hrun c8W;clear hW2 hbO hoqO horO hapO;simp[go_sem]at hrun)
     all_goals
      (try gi_wp2)
      exact HGO.out
    case done=>
     rintro D xs X hD hS ⟨ov,c8,f8,hA,hB,hs⟩ hK;have hxs:xs.map (partAt R N)=tr.kK R N:=by
      have h1:xs.map (partAt R N)=(xs.map (·.1)).map (tr.uh R):=by rw[List.map_map];rfl
      rw[h1,hS];rfl
     rw[hxs]at hA;have HF:=qe (show Y0 (tr.QG H ⟨⟨hi,false,op,b3,b4,b5,b6,b7,b8,rc⟩,qs,an,au,ad⟩) qs w (.returned ov) X from
      ⟨hd,tr.kK R N,ov,HL.out,by rw[tr.VB];have:=HN.out;have:=HLEN.out;omega,λp hp=>by
       unfold tr.kK at hp;obtain⟨j,_,rfl⟩:=List.mem_map.1 hp;exact tr.part_len R j,rfl,Jb.out.trans (hB.mono Jb.out.size),hA.QK (gQ Jb.out.size HB59.out.size)⟩)
     have HD:=qe hD;have HK:=qe hK;clear hxs hS hA hB hs hD hK;go_wp2_with fail
     (try simp only[Exit.inBlock,Exit.then])
     exact ans_leaveD rfl rfl (gQ Jb.out.size (gQ HB59.out.size HD.out)) HK.out HF.out
    case stop=>
     rintro D c' pre X _ _ h _;exact h.elim
   ·have e1:(c != 0)=true:=by rw[bne_iff_ne];exact hnc
    clear hnc;go_wp2_with fail;refine(HONE.out k6 c [] (by simp) (.slice none 0 0) (.inl rfl) w5 HB25.out (HC6.out w5 (gJ _ _)).1 (HC6.out w5 (gJ _ _)).2 (xV _)).mono ?_;rintro e w6 ⟨q6,r6,rfl,hB6,hoq,hor,hap⟩;obtain⟨t,ht⟩:=yM ((c == 0));obtain⟨hd,hhd⟩:=yM (hdA ⟨hi,false,op,b3,b4,b5,b6,b7,b8,rc⟩ t c);have hL:=HL.out;rw[<- ht,<- hhd,hnil]at hL;rw[<- ht,<- hhd];have HB6:=qe (gm Jb.out hB6);have hF:Y0 (tr.QG H ⟨⟨hi,false,op,b3,b4,b5,b6,b7,b8,rc⟩,qs,an,au,ad⟩) qs w (.returned (.slice (some ⟨w6.heap.size,0,none⟩) 1 1)) (w6.alloc (.cells (yT hd q6 r6 (.slice none 0 0) (.slice none 0 0)).toArray 33)):=by
     have hs5:=Jb.out.size;have hBn:Below w6.heap.size w6 (w6.alloc (.cells (yT hd q6 r6 (.slice none 0 0) (.slice none 0 0)).toArray 33)):=(gJ _ _).alloc (gI _) _;refine⟨hd,[[]],_,hL,by simp,λp hp=>by rw[List.mem_singleton.1 hp];simp,rfl,HB6.out.trans (hBn.mono HB6.out.size),[(q6,r6)],rfl,?_,λk k1 k2=>?_,⟨List.pairwise_singleton _ _,λp hp=>by rw[List.mem_singleton.1 hp];exact hap⟩,λb hb p hp=>?_⟩
     ·exact World.ownsRow_lit w6 (yT hd q6 r6 (.slice none 0 0) (.slice none 0 0)).toArray 1 HB6.out.size (by unfold maxLen;omega) rfl
     ·simp only[gT]at k1;obtain rfl:k=0:=by omega
      exact⟨qK (ownsRow_below hoq hBn) hs5,qK (ownsRow_below hor hBn) hs5⟩
     ·rw[List.mem_singleton.1 hp];simp only[Value.ownBlock,gM]at hb;subst hb;exact⟨λh=>by have:=(hoq.lt _ h).2;omega,λh=>by have:=(hor.lt _ h).2;omega⟩
    have HF:=qe hF;obtain⟨q6a,q6c,rfl,-⟩:=qj hoq;obtain⟨r6a,r6c,rfl,-⟩:=qj hor;clear hF hL hB6 hoq hor hap ht hhd x6 x7 e1;go_wp2_with fail
    (try simp only[Exit.inBlock,Exit.then])
    exact JL rfl rfl HF.out
 ·have HL:=qe (show tr.QG H ⟨⟨hi,true,op,b3,b4,b5,b6,b7,b8,rc⟩,qs,an,au,ad⟩= [] from if_pos (.inl rfl));go_wp2_with fail
  (try simp only[Exit.inBlock,Exit.then])
  exact JL rfl rfl (Xt HL.out HB1.out)
end Go.Proofs.YtpcmilhjpmlbpaaGreatDoor
