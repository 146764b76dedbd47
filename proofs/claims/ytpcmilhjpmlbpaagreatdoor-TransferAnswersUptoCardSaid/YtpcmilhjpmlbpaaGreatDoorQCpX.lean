import Derived.Test.YtpcmilhjpmlbpaaGreatDoorQTrN
import Derived.Orders
import Derived.WalkKit
set_option maxRecDepth 100000
set_option maxHeartbeats 4000000
namespace Go.Proofs.YtpcmilhjpmlbpaaGreatDoor
open Go
def jY (a:Act)(g:Nat→Option Value):Act:={ a with tmps:=a.tmps.mapIdx fun t v=>(g t).getD v}
def updG (g:Nat→Option Value)(t:Nat)(v:Value):Nat→Option Value:=fun s=>if s=t then some v else g s
def xH (d:Nat→Bool)(i:Nat):Nat→Bool:=fun j=>if j=i then true else d j
theorem updG_same (g:Nat→Option Value)(t:Nat)(v:Value):updG g t v t=some v:=if_pos rfl
theorem updG_other (g:Nat→Option Value){s t:Nat}(v:Value)(h:s≠t):updG g t v s=g s:=if_neg h
theorem ZZ (d:Nat→Bool)(i:Nat):xH d i i=true:=if_pos rfl
theorem yD (d:Nat→Bool){i j:Nat}(h:j≠i):xH d i j=d j:=if_neg h
theorem fillA_none (a:Act):jY a (fun _=>none)=a:=by
 unfold jY
 cases a
 simp only[Option.getD_none,Act.mk.injEq,and_true];apply Array.ext
 ·simp
 ·intro i h1 h2;simp
theorem fillA_put (a:Act)(g:Nat→Option Value)(t:Nat)(v:Value):(jY a g).put (some t) v=jY a (updG g t v):=by
 unfold jY Act.put;simp only[Act.mk.injEq,and_true];apply Array.ext
 ·simp
 ·intro i h1 h2;have hi:i<(Array.mapIdx (fun t v=>(g t).getD v) a.tmps).size:=by simpa using h1
  rw[Array.getElem_setIfInBounds hi];simp only[Array.getElem_mapIdx,updG];by_cases h:t=i
  ·subst h;simp
  ·rw[if_neg h,if_neg (Ne.symm h)]
theorem fillA_some {a:Act}{g:Nat→Option Value}{t:Nat}{v:Value}(h:g t=some v)(ht:t<a.tmps.size):(jY a g).eval (.tmp t)=v:=by
 unfold jY Act.eval;simp only[Array.getD_eq_getD_getElem?,Array.getElem?_mapIdx,Array.getElem?_eq_getElem ht,Option.map_some,Option.getD_some,h]
theorem fillA_keep {a:Act}{g:Nat→Option Value}{t:Nat}(h:g t=none):(jY a g).eval (.tmp t)=a.eval (.tmp t):=by
 unfold jY Act.eval;simp only[Array.getD_eq_getD_getElem?,Array.getElem?_mapIdx,h]
 cases a.tmps[t]? <;> rfl
section
variable {P:Program}{ops:Array Oper}{Q:Exit→Act→World→Prop}{md:Region.Mode}{a:Act}
def topB (md:Region.Mode)(ops:Array Oper):Bool:=(List.range ops.size).all fun i=>((ops[i]?).map fun o=>o.after.all fun e=>!Region.binds md e || decide (e.on<i)).getD true
theorem all_listed {L:Array Bool}(ht:topB md ops=true)(hr:Region.ready md ops L= [])(hL:L.size=ops.size):∀i,i<ops.size→L.getD i false=true:=by
 intro i
 induction i using Nat.strongRecOn with
 | ind i ih=>
   intro hi
   cases hc:L.getD i false with
   | true=>rfl
   | false=>
     exfalso;have hm:i∈Region.ready md ops L:=by
      rw[mem_ready];refine⟨?_,ops[i],by simp[hi],fun e he hb=>?_⟩
      ·have hlt:i<L.size:=by omega
       simp only[Array.getD_eq_getD_getElem?,Array.getElem?_eq_getElem hlt,Option.getD_some]at hc ⊢;exact hc
      ·have h1:=List.all_eq_true.1 ht i (List.mem_range.2 hi);simp only[Array.getElem?_eq_getElem hi,Option.map_some,Option.getD_some]at h1;have h2:=Array.all_eq_true_iff_forall_mem.1 h1 e he;simp only[hb,Bool.not_true,Bool.false_or,decide_eq_true_eq]at h2;exact ih e.on h2 (by omega)
     rw[hr]at hm
     cases hm
theorem wpAny_ghost (ht:topB md ops=true)(I:(Nat→Bool)→(Nat→Option Value)→World→Prop)
 (step:∀d g w,I d g w→∀i o,ops[i]? =some o→d i=false→(∀e∈o.after,Region.binds md e=true→d e.on=true)→
  wpOp P ops Q i (fun a' w'=>∃g',a'=jY a g'∧I (xH d i) g' w') (jY a g) w)
 (fin:∀d g w,I d g w→(∀i,i<ops.size→d i=true)→Q .normal (jY a g) w):
 ∀(n:Nat) (L:Array Bool) (g:Nat→Option Value) (w:World),L.size=ops.size→L.toList.count false≤n→I (fun j=>L.getD j false) g w→wpAny P md ops Q n L (jY a g) w:=by
 intro n
 induction n with
 | zero=>
   intro L g w hL hc hI;have hr:Region.ready md ops L= []:=by
    rw[List.eq_nil_iff_forall_not_mem];intro i hi;obtain⟨h0,o,ho,_⟩:=mem_ready.1 hi;have hlt:i<L.size:=by rw[hL];exact(Array.getElem?_eq_some_iff.1 ho).1
    simp only[Array.getD_eq_getD_getElem?,Array.getElem?_eq_getElem hlt,Option.getD_some]at h0;have:false∈L.toList:=by rw[← h0];simp
    have:=List.count_pos_iff.2 this;omega
   exact⟨hr,fin _ _ _ hI (all_listed ht hr hL)⟩
 | succ n ih=>
   intro L g w hL hc hI;refine⟨fun hr=>fin _ _ _ hI (all_listed ht hr hL),fun i hi=>?_⟩;obtain⟨h0,o,ho,hall⟩:=mem_ready.1 hi;have hlt:i<L.size:=by rw[hL];exact(Array.getElem?_eq_some_iff.1 ho).1
   have h0':L.getD i false=false:=by
    simp only[Array.getD_eq_getD_getElem?,Array.getElem?_eq_getElem hlt,Option.getD_some]at h0 ⊢;exact h0
   refine wpOp_mono ?_ (step _ g w hI i o ho h0' hall);rintro a' w' ⟨g',rfl,hI'⟩;refine ih (L.setIfInBounds i true) g' w' (by simpa using hL) ?_ ?_
   ·have hget:L.toList[i]'(by simpa using hlt)=false:=by
     simp only[Array.getD_eq_getD_getElem?,Array.getElem?_eq_getElem hlt,Option.getD_some]at h0
     simpa using h0
    rw[Array.toList_setIfInBounds,List.count_set (by simpa using hlt),hget];have e1:((false == false)=true):=rfl;have e2:¬((true == false)=true):=by decide
    rw[if_pos e1,if_neg e2];omega
   ·have e:(fun j=>(L.setIfInBounds i true).getD j false)=xH (fun j=>L.getD j false) i:=by
     funext j
     unfold xH;by_cases hj:j=i
     ·subst hj;simp[hlt]
     ·rw[if_neg hj,getD_set_ne false (Ne.symm hj)]
    rw[e];exact hI'
theorem Xg {id:Nat}{w:World}(I:(Nat→Bool)→(Nat→Option Value)→World→Prop)(hm:P.follows .mixedOrders=true)(ht:topB .any ops=true)
 (h0:I (fun _=>false) (fun _=>none) w.drew)
 (step:∀d g w,I d g w→∀i o,ops[i]? =some o→d i=false→(∀e∈o.after,Region.binds .any e=true→d e.on=true)→
  wpOp P ops Q i (fun a' w'=>∃g',a'=jY a g'∧I (xH d i) g' w') (jY a g) w)
 (fin:∀d g w,I d g w→(∀i,i<ops.size→d i=true)→Q .normal (jY a g) w):(Code.region id ops true).wp P Q a w:=by
 refine wp_region_any hm ?_;have h:=wpAny_ghost ht I step fin ops.size (Array.replicate ops.size false) (fun _=>none) w.drew (by simp) (by simp) (by
  have e:(fun j=>(Array.replicate ops.size false).getD j false)=fun _=>false:=by
   funext j
   simp only[Array.getD_eq_getD_getElem?,Array.getElem?_replicate]
   split <;> rfl
  rw[e];exact h0)
 rw[fillA_none]at h;exact h
variable {i:Nat}{o:Oper}{d:Nat→Bool}{g:Nat→Option Value}{w w':World}{I:(Nat→Bool)→(Nat→Option Value)→World→Prop}
theorem yh {t:Nat}{v:Value}(hi:ops[i]? =some o)(hg:o.guard=none)(hd:o.dst=some t)(hr:(execOp (jY a g).eval o).run P w= .ok (.value v) w')
 (hI:I (xH d i) (updG g t v) w'):wpOp P ops Q i (fun a' w'=>∃g',a'=jY a g'∧I (xH d i) g' w') (jY a g) w:=by
 unfold wpOp;simp only[hi];rw[if_pos (by unfold Region.wanted;rw[hg])];refine .inl ?_;unfold Oper.wp;rw[hr];show ∃g',_∧_;exact⟨_,by rw[hd];exact fillA_put a g t v,hI⟩
theorem ghost_skip (hi:ops[i]? =some o)(hg:o.guard=none)(hd:o.dst=none)(hr:(execOp (jY a g).eval o).run P w= .ok .skip w')
 (hI:I (xH d i) g w'):wpOp P ops Q i (fun a' w'=>∃g',a'=jY a g'∧I (xH d i) g' w') (jY a g) w:=by
 unfold wpOp;simp only[hi];rw[if_pos (by unfold Region.wanted;rw[hg])];refine .inl ?_;unfold Oper.wp;rw[hr];show ∃g',_∧_;exact⟨g,by rw[hd];rfl,hI⟩
theorem ghost_call {t:Nat}{f:FuncId}{args:Array Value}(hi:ops[i]? =some o)(hg:o.guard=none)(hd:o.dst=some t)(hr:(execOp (jY a g).eval o).run P w= .ok (.enter f args) w')
 (hc:Calls P f args w' fun e w''=>∃v,e= .returned v∧I (xH d i) (updG g t v) w''):wpOp P ops Q i (fun a' w'=>∃g',a'=jY a g'∧I (xH d i) g' w') (jY a g) w:=by
 unfold wpOp;simp only[hi];rw[if_pos (by unfold Region.wanted;rw[hg])];refine .inl ?_;unfold Oper.wp;rw[hr,Oper.upon_enter];refine hc.mono ?_;rintro e w'' ⟨v,rfl,h⟩;exact⟨_,by rw[hd];exact fillA_put a g t v,h⟩
end
end Go.Proofs.YtpcmilhjpmlbpaaGreatDoor
namespace Go.Proofs.YtpcmilhjpmlbpaaGreatDoor
open Go.RowKit Go.Shelf nm od
def OnePost (h:Hd)(t:Bool)(c:Int)(qs:List Qn)(l:List Rec)(w:World)(e:Ending)(w':World):Prop:=∃q v,e= .returned (yZ (hdA h t c) q v qX qX)∧Below w.heap.size w w'∧
 w'.ownsRow w.heap.size 78 3 q qs.length (xI qs)∧w'.ownsRow w.heap.size 80 5 v l.length (qp l)∧∀b,q.ownBlock=some b→v.ownBlock≠some b
namespace on
@[reducible] def op0:Oper:={ dst:=some 5,op:=Op.fieldAddr 33 (Operand.tmp 1) 0,type:=0,pos:= "transfer.go:132",after:=#[],guard:=none}
@[reducible] def op1:Oper:={ dst:=some 6,op:=Op.load 3 (Operand.tmp 5),type:=3,pos:= "transfer.go:132",after:=#[{ on:=0,ground:=Ground.data}],guard:=none}
@[reducible] def op2:Oper:={ dst:=some 7,op:=Op.fieldAddr 33 (Operand.tmp 1) 2,type:=0,pos:= "transfer.go:132",after:=#[],guard:=none}
@[reducible] def op3:Oper:={ dst:=some 8,op:=Op.load 3 (Operand.tmp 7),type:=3,pos:= "transfer.go:132",after:=#[{ on:=2,ground:=Ground.data}],guard:=none}
@[reducible] def op4:Oper:={ dst:=some 9,op:=Op.load 3 (Operand.tmp 2),type:=3,pos:= "transfer.go:132",after:=#[],guard:=none}
@[reducible] def op5:Oper:={ dst:=some 10,op:=Op.binOp BinOp.eql 3 (Operand.tmp 9) (Operand.const (Value.int IntKind.i64 0)) 3,type:=4,pos:= "transfer.go:132",after:=#[{ on:=4,ground:=Ground.data}],guard:=none}
@[reducible] def op6:Oper:={ dst:=some 11,op:=Op.fieldAddr 33 (Operand.tmp 1) 5,type:=0,pos:= "transfer.go:132",after:=#[],guard:=none}
@[reducible] def op7:Oper:={ dst:=some 12,op:=Op.load 4 (Operand.tmp 11),type:=4,pos:= "transfer.go:132",after:=#[{ on:=6,ground:=Ground.data}],guard:=none}
@[reducible] def op8:Oper:={ dst:=some 13,op:=Op.fieldAddr 33 (Operand.tmp 1) 8,type:=0,pos:= "transfer.go:132",after:=#[],guard:=none}
@[reducible] def op9:Oper:={ dst:=some 14,op:=Op.load 4 (Operand.tmp 13),type:=4,pos:= "transfer.go:132",after:=#[{ on:=8,ground:=Ground.data}],guard:=none}
@[reducible] def op10:Oper:={ dst:=some 15,op:=Op.load 3 (Operand.tmp 2),type:=3,pos:= "transfer.go:132",after:=#[],guard:=none}
@[reducible] def op11:Oper:={ dst:=some 16,op:=Op.fieldAddr 33 (Operand.tmp 1) 10,type:=0,pos:= "transfer.go:132",after:=#[],guard:=none}
@[reducible] def op12:Oper:={ dst:=some 17,op:=Op.load 30 (Operand.tmp 16),type:=30,pos:= "transfer.go:132",after:=#[{ on:=11,ground:=Ground.data}],guard:=none}
@[reducible] def op13:Oper:={ dst:=some 18,op:=Op.call { callee:=Callee.value (Operand.func 37),args:=#[Operand.tmp 17],argTypes:=#[30]},type:=30,pos:= "transfer.go:132",after:=#[{ on:=12,ground:=Ground.data}],guard:=none}
@[reducible] def op14:Oper:={ dst:=some 19,op:=Op.move (Operand.tmp 0),type:=31,pos:= "transfer.go:132",after:=#[],guard:=none}
@[reducible] def op15:Oper:={ dst:=some 20,op:=Op.call { callee:=Callee.value (Operand.func 38),args:=#[Operand.tmp 19],argTypes:=#[31]},type:=31,pos:= "transfer.go:132",after:=#[{ on:=14,ground:=Ground.data},{ on:=13,ground:=Ground.chain}],guard:=none}
@[reducible] def op16:Oper:={ dst:=some 21,op:=Op.build 33 #[(0,Operand.tmp 6),(1,Operand.const (Value.bool true)),(2,Operand.tmp 8),(3,Operand.tmp 10),(5,Operand.tmp 12),(8,Operand.tmp 14),(9,Operand.tmp 15),(10,Operand.tmp 18),(11,Operand.tmp 20)],type:=33,pos:= "transfer.go:132",after:=#[{ on:=1,ground:=Ground.data},{ on:=3,ground:=Ground.data},{ on:=5,ground:=Ground.data},{ on:=7,ground:=Ground.data},{ on:=9,ground:=Ground.data},{ on:=10,ground:=Ground.data},{ on:=13,ground:=Ground.data},{ on:=15,ground:=Ground.data}],guard:=none}
@[reducible] def op17:Oper:={ dst:=none,op:=Op.store 33 (Operand.tmp 4) (Operand.tmp 21),type:=0,pos:= "transfer.go:132",after:=#[{ on:=16,ground:=Ground.data},{ on:=15,ground:=Ground.chain},{ on:=0,ground:=Ground.phase},{ on:=1,ground:=Ground.phase},{ on:=2,ground:=Ground.phase},{ on:=3,ground:=Ground.phase},{ on:=4,ground:=Ground.phase},{ on:=5,ground:=Ground.phase},{ on:=6,ground:=Ground.phase},{ on:=7,ground:=Ground.phase},{ on:=8,ground:=Ground.phase},{ on:=9,ground:=Ground.phase},{ on:=10,ground:=Ground.phase},{ on:=11,ground:=Ground.phase},{ on:=12,ground:=Ground.phase},{ on:=13,ground:=Ground.phase},{ on:=14,ground:=Ground.phase},{ on:=15,ground:=Ground.phase},{ on:=16,ground:=Ground.phase}],guard:=none}
@[reducible] def ops:Array Oper:=#[op0,op1,op2,op3,op4,op5,op6,op7,op8,op9,op10,op11,op12,op13,op14,op15,op16,op17]
structure Nums where
 q:Value
 r:Value
structure In where
 bo:Nat
 bc:Nat
 bm:Nat
 h:Hd
 t:Bool
 c:Int
 qv:Value
 lv:Value
def vOf (p:In)(s:Nums)(i:Nat):Option Value:=
 if i=0 then some (.pointer (some ⟨p.bo,0,none⟩)) else if i=1 then some (.int .i64 p.h.id) else if i=2 then some (.pointer (some ⟨p.bo,2,none⟩)) else if i=3 then some (.int .i64 p.h.op) else if i=4 then some (.int .i64 p.c) else if i=5 then some (.bool p.t) else if i=6 then some (.pointer (some ⟨p.bo,5,none⟩)) else if i=7 then some (.bool p.h.rd) else if i=8 then some (.pointer (some ⟨p.bo,8,none⟩)) else if i=9 then some (.bool p.h.cd) else if i=10 then some (.int .i64 p.c) else if i=11 then some (.pointer (some ⟨p.bo,10,none⟩)) else if i=12 then some p.qv else if i=13 then some s.q else if i=14 then some p.lv else if i=15 then some s.r else if i=16 then some (yZ (hdA p.h p.t p.c) s.q s.r (.slice none 0 0) (.slice none 0 0)) else none
def gOf (p:In)(s:Nums)(d:Nat→Bool)(t:Nat):Option Value:=if 5≤t∧t<22∧d (t-5)=true then vOf p s (t-5) else none
section
variable {p:In}{s:Nums}{d:Nat→Bool}
theorem Qk {i t:Nat}{v:Value}(ht:5≤t∧t<22)(hi:t-5=i)(hv:vOf p s i=some v):updG (gOf p s d) t v=gOf p s (xH d i):=by
 funext k
 by_cases h:k=t
 ·subst h;rw[updG_same];unfold gOf;rw[hi,ZZ,if_pos ⟨ht.1,ht.2,rfl⟩,hv]
 ·rw[updG_other _ _ h];unfold gOf;by_cases hs:5≤k∧k<22
  ·have:k-5≠i:=by omega
   rw[yD _ this]
  ·rw[if_neg (fun h=>hs ⟨h.1,h.2.1⟩),if_neg (fun h=>hs ⟨h.1,h.2.1⟩)]
theorem g_skip:gOf p s d=gOf p s (xH d 17):=by
 funext k
 unfold gOf;by_cases hs:5≤k∧k<22
 ·have:k-5≠17:=by omega
  rw[yD _ this]
 ·rw[if_neg (fun h=>hs ⟨h.1,h.2.1⟩),if_neg (fun h=>hs ⟨h.1,h.2.1⟩)]
theorem g_at {t:Nat}(ht:5≤t∧t<22)(hd:d (t-5)=true):gOf p s d t=vOf p s (t-5):=if_pos ⟨ht.1,ht.2,hd⟩
theorem g_low {t:Nat}(ht:t<5):gOf p s d t=none:=if_neg (fun h=>by omega)
theorem g_nums {s':Nums}(h:∀i,d i=true→vOf p s i=vOf p s' i):gOf p s d=gOf p s' d:=by
 funext k
 unfold gOf;by_cases hs:5≤k∧k<22∧d (k-5)=true
 ·rw[if_pos hs,if_pos hs,h _ hs.2.2]
 ·rw[if_neg hs,if_neg hs]
end
structure J (w0:World)(p:In)(qs:List Qn)(l:List Rec)(s:Nums)(d:Nat→Bool)(w:World):Prop where
 below:Below w0.heap.size w0 w
 fq:d 13=true→w.ownsRow w0.heap.size 78 3 s.q qs.length (xI qs)∧∀b,s.q.ownBlock=some b→b≠p.bm
 fr:d 15=true→w.ownsRow w0.heap.size 80 5 s.r l.length (qp l)∧∀b,s.r.ownBlock=some b→b≠p.bm
 ap:d 13=true→d 15=true→∀b,s.q.ownBlock=some b→s.r.ownBlock≠some b
 n13:d 13=false→d 16=false
 n15:d 15=false→d 16=false
 n17:d 16=false→d 17=false
 un:d 17=false→qy w p.bm hd0 qX qX qX qX
 st:d 17=true→qy w p.bm (hdA p.h p.t p.c) s.q s.r qX qX
def I (w0:World)(p:In)(qs:List Qn)(l:List Rec)(d:Nat→Bool)(g:Nat→Option Value)(w:World):Prop:=∃s,g=gOf p s d∧J w0 p qs l s d w
theorem J.lt {w0 w:World}{p:In}{qs:List Qn}{l:List Rec}{s:Nums}{d:Nat→Bool}(h:J w0 p qs l s d w):p.bm<w.heap.size:=by
 cases e:d 17
 ·exact(h.un e).lt
 ·exact(h.st e).lt
theorem J.step {w0 w w':World}{p:In}{qs:List Qn}{l:List Rec}{s:Nums}{d:Nat→Bool}(h:J w0 p qs l s d w)(hb:Below w.heap.size w w'){i:Nat}(hi:i≠13∧i≠15∧i≠17)(h16:i=16→d 13=true∧d 15=true):J w0 p qs l s (xH d i) w':=by
 have e13:xH d i 13=d 13:=yD _ (Ne.symm hi.1);have e15:xH d i 15=d 15:=yD _ (Ne.symm hi.2.1);have e17:xH d i 17=d 17:=yD _ (Ne.symm hi.2.2);have e16:i≠16→xH d i 16=d 16:=fun e=>yD _ (Ne.symm e);refine⟨h.below.trans (hb.mono h.below.size),?_,?_,?_,?_,?_,?_,?_,?_⟩ <;> simp only[e13,e15,e17]
 ·intro h2;obtain⟨a,b⟩:=h.fq h2;exact⟨ownsRow_below a hb,b⟩
 ·intro h2;obtain⟨a,b⟩:=h.fr h2;exact⟨ownsRow_below a hb,b⟩
 ·exact h.ap
 ·intro h2;by_cases e:i=16
  ·rw[(h16 e).1]at h2;cases h2
  ·rw[e16 e];exact h.n13 h2
 ·intro h2;by_cases e:i=16
  ·rw[(h16 e).2]at h2;cases h2
  ·rw[e16 e];exact h.n15 h2
 ·intro h2;by_cases e:i=16
  ·subst e;rw[ZZ]at h2;cases h2
  ·rw[e16 e]at h2;exact h.n17 h2
 ·intro h2;exact(h.un h2).below hb
 ·intro h2;exact(h.st h2).below hb
section
variable {ρ:Operand→Value}{dst:Option Tmp}{ty:TypeId}{pos:String}{af:Array Edge}{gd:Option (Nat×Bool)}{w w':World}
theorem run_move {x:Operand}{v:Value}(hx:ρ x=v):(execOp ρ ⟨dst,.move x,ty,pos,af,gd⟩).run Tryz.prog w= .ok (.value v) w:=by
 unfold execOp;simp[hx]
theorem run_field0 {x:Operand}{b:Nat}(hx:ρ x= .pointer (some ⟨b,0,none⟩)):(execOp ρ ⟨dst,.fieldAddr 33 x 0,ty,pos,af,gd⟩).run Tryz.prog w= .ok (.value (.pointer (some ⟨b,0,none⟩))) w:=by
 unfold execOp;simp only[hx]
 go_simp
theorem run_field2 {x:Operand}{b:Nat}(hx:ρ x= .pointer (some ⟨b,0,none⟩)):(execOp ρ ⟨dst,.fieldAddr 33 x 2,ty,pos,af,gd⟩).run Tryz.prog w= .ok (.value (.pointer (some ⟨b,2,none⟩))) w:=by
 unfold execOp;simp only[hx]
 go_simp
theorem run_field5 {x:Operand}{b:Nat}(hx:ρ x= .pointer (some ⟨b,0,none⟩)):(execOp ρ ⟨dst,.fieldAddr 33 x 5,ty,pos,af,gd⟩).run Tryz.prog w= .ok (.value (.pointer (some ⟨b,5,none⟩))) w:=by
 unfold execOp;simp only[hx]
 go_simp
theorem run_field8 {x:Operand}{b:Nat}(hx:ρ x= .pointer (some ⟨b,0,none⟩)):(execOp ρ ⟨dst,.fieldAddr 33 x 8,ty,pos,af,gd⟩).run Tryz.prog w= .ok (.value (.pointer (some ⟨b,8,none⟩))) w:=by
 unfold execOp;simp only[hx]
 go_simp
theorem run_field10 {x:Operand}{b:Nat}(hx:ρ x= .pointer (some ⟨b,0,none⟩)):(execOp ρ ⟨dst,.fieldAddr 33 x 10,ty,pos,af,gd⟩).run Tryz.prog w= .ok (.value (.pointer (some ⟨b,10,none⟩))) w:=by
 unfold execOp;simp only[hx]
 go_simp
theorem JM {x:Operand}{b o:Nat}{u:Int}(hx:ρ x= .pointer (some ⟨b,o,none⟩))(hc:w.cell? ⟨b,o,none⟩=some (.int .i64 u)):(execOp ρ ⟨dst,.load 3 x,ty,pos,af,gd⟩).run Tryz.prog w= .ok (.value (.int .i64 u)) w:=by
 unfold execOp;simp only[hx]
 go_simp
theorem run_loadB {x:Operand}{b o:Nat}{u:Bool}(hx:ρ x= .pointer (some ⟨b,o,none⟩))(hc:w.cell? ⟨b,o,none⟩=some (.bool u)):(execOp ρ ⟨dst,.load 4 x,ty,pos,af,gd⟩).run Tryz.prog w= .ok (.value (.bool u)) w:=by
 unfold execOp;simp only[hx]
 go_simp
theorem run_loadQ {x:Operand}{b o:Nat}{a:Option Addr}{n c:Nat}(hx:ρ x= .pointer (some ⟨b,o,none⟩))(hc:w.cell? ⟨b,o,none⟩=some (.slice a n c)):(execOp ρ ⟨dst,.load 30 x,ty,pos,af,gd⟩).run Tryz.prog w= .ok (.value (.slice a n c)) w:=by
 unfold execOp;simp only[hx]
 go_simp
theorem run_eql {x:Operand}{c:Int}{t:Bool}(hx:ρ x= .int .i64 c)(hk:ρ (.const (.int .i64 0))= .int .i64 0)(ht:(c == 0)=t):(execOp ρ ⟨dst,.binOp .eql 3 x (.const (.int .i64 0)) 3,ty,pos,af,gd⟩).run Tryz.prog w= .ok (.value (.bool t)) w:=by
 have h2:decide (c=0)=t:=by rw[← ht];exact(Bool.beq_eq_decide_eq ..).symm
 unfold execOp;simp only[hx,hk]
 go_simp
theorem run_call1 {x:Operand}{f:FuncId}{tys:Array TypeId}(hf:ρ (.func f)= .func (.func f) #[] #[])(he:∀args,(callFunc f args).run Tryz.prog w= .ok (.enter f args) w){u:Value}(hx:ρ x=u):
 (execOp ρ ⟨dst,.call { callee:=.value (.func f),args:=#[x],argTypes:=tys},ty,pos,af,gd⟩).run Tryz.prog w= .ok (.enter f #[u]) w:=by
 subst hx;unfold execOp resolve;simp only[hf]
 go_simp
theorem run_build {x0 x1 x2 x3 x5 x8 x9 x10 x11:Operand}{i o c:Int}{r t rd cd:Bool}{aq ar:Option Addr}{nq nr cq cr:Nat}(h0:ρ x0= .int .i64 i)(h1:ρ x1= .bool r)(h2:ρ x2= .int .i64 o)(h3:ρ x3= .bool t)(h5:ρ x5= .bool rd)(h8:ρ x8= .bool cd)(h9:ρ x9= .int .i64 c)(h10:ρ x10= .slice aq nq cq)(h11:ρ x11= .slice ar nr cr):
 (execOp ρ ⟨dst,.build 33 #[(0,x0),(1,x1),(2,x2),(3,x3),(5,x5),(8,x8),(9,x9),(10,x10),(11,x11)],ty,pos,af,gd⟩).run Tryz.prog w= .ok (.value (yZ ⟨i,r,o,t,false,rd,false,false,cd,c⟩ (.slice aq nq cq) (.slice ar nr cr) (.slice none 0 0) (.slice none 0 0))) w:=by
 unfold execOp
 go_simp
theorem run_store {x y:Operand}{b:Nat}{h h0:Hd}{aq ar:Option Addr}{nq nr cq cr:Nat}(hx:ρ x= .pointer (some ⟨b,0,none⟩))(hy:ρ y=yZ h (.slice aq nq cq) (.slice ar nr cr) (.slice none 0 0) (.slice none 0 0))(hm:qy w b h0 qX qX qX qX):
 ∃W,(execOp ρ ⟨dst,.store 33 x y,ty,pos,af,gd⟩).run Tryz.prog w= .ok .skip W∧qy W b h (.slice aq nq cq) (.slice ar nr cr) qX qX∧w.grownBy W (some b):=by
 obtain⟨y0,y1,y2,y3,y4,y5,y6,y7,y8,y9,y10,y11,y12,y13⟩:=qy.facts hm;have f0:=qy.free hm 0;have f1:=qy.free hm 1;have f2:=qy.free hm 2;have f3:=qy.free hm 3;have f4:=qy.free hm 4;have f5:=qy.free hm 5;have f6:=qy.free hm 6;have f7:=qy.free hm 7;have f8:=qy.free hm 8;have f9:=qy.free hm 9;have f10:=qy.free hm 10;have f11:=qy.free hm 11;have f12:=qy.free hm 12;have f13:=qy.free hm 13;have hst:=jS hm h (.slice aq nq cq) (.slice ar nr cr) qX qX;refine⟨_,?_,hst.1,hst.2⟩;clear hst hm;unfold execOp;simp only[hx,hy]
 go_simp
end
theorem callFunc_q (args:Array Value)(w:World):(callFunc 37 args).run Tryz.prog w= .ok (.enter 37 args) w:=by kernel_rfl
theorem callFunc_r (args:Array Value)(w:World):(callFunc 38 args).run Tryz.prog w= .ok (.enter 38 args) w:=by kernel_rfl
theorem region {id:Nat}{a:Act}{w0 w1:World}{Q:Exit→Act→World→Prop}{p:In}{qs:List Qn}{l:List Rec}{qa:Option Addr}{qc:Nat}{a0 u0 d0:Value}(hq:p.qv= .slice qa qs.length qc)(ht:(p.c == 0)=p.t)
 (e0:a.eval (.tmp 0)=p.lv) (e1:a.eval (.tmp 1)= .pointer (some ⟨p.bo,0,none⟩)) (e2:a.eval (.tmp 2)= .pointer (some ⟨p.bc,0,none⟩)) (e4:a.eval (.tmp 4)= .pointer (some ⟨p.bm,0,none⟩)) (hsz:a.tmps.size=22) (hbm0:w0.heap.size≤p.bm)
 (hB1:Below w0.heap.size w0 w1) (hm1:qy w1 p.bm hd0 qX qX qX qX)
 (hm:∀X,Below w0.heap.size w0 X→qy X p.bo p.h p.qv a0 u0 d0) (hc:∀X,Below w0.heap.size w0 X→X.cell? ⟨p.bc,0,none⟩=some (.int .i64 p.c))
 (cq:∀X,Below w0.heap.size w0 X→Calls Tryz.prog 37 #[p.qv] X fun e w'=>∃v',e= .returned v'∧Below X.heap.size X w'∧w'.ownsRow X.heap.size 78 3 v' qs.length (xI qs))
 (cr:∀X,Below w0.heap.size w0 X→Calls Tryz.prog 38 #[p.lv] X fun e w'=>∃v',e= .returned v'∧Below X.heap.size X w'∧w'.ownsRow X.heap.size 80 5 v' l.length (qp l))
 (fin:∀(q r:Value) (tm:Array Value) (X:World),tm.getD 4 undef= .pointer (some ⟨p.bm,0,none⟩)→Below w0.heap.size w0 X→qy X p.bm (hdA p.h p.t p.c) q r qX qX→X.ownsRow w0.heap.size 78 3 q qs.length (xI qs)→X.ownsRow w0.heap.size 80 5 r l.length (qp l)→
  (∀b,q.ownBlock=some b→r.ownBlock≠some b)→Q .normal { a with tmps:=tm} X):
 (Code.region id ops true).wp Tryz.prog Q a w1:=by
 refine Xg (I w0 p qs l) (by kernel_rfl) (by kernel_rfl) ?_ ?_ ?_
 ·refine⟨⟨undef,undef⟩,?_,⟨hB1.drew,nofun,nofun,nofun,fun _=>rfl,fun _=>rfl,fun _=>rfl,fun _=>hm1.below (Below.refl _ _).drew,nofun⟩⟩
  funext t
  unfold gOf;rw[if_neg (fun h=>by cases h.2.2)]
 ·rintro d g w ⟨s,rfl,hJ⟩ i o ho hd hall;have ev:∀(t i:Nat) (v:Value),5≤t∧t<22→t-5=i→d i=true→vOf p s i=some v→(jY a (gOf p s d)).eval (.tmp t)=v:=fun t i v h1 h2 h3 h4=>fillA_some (by rw[g_at h1 (h2 ▸ h3),h2,h4]) (by rw[hsz];exact h1.2);have el:∀t:Nat,t<5→(jY a (gOf p s d)).eval (.tmp t)=a.eval (.tmp t):=fun t h=>fillA_keep (g_low h);obtain⟨m0,m1,m2,m3,m4,m5,m6,m7,m8,m9,m10,m11,m12,m13⟩:=qy.facts (hm w hJ.below)
  match i,ho,hd,hall with
  | 0,ho,hd,hall=>
    obtain rfl:op0=o:=Option.some.inj ho;refine yh rfl rfl rfl (run_field0 ((el 1 (by decide)).trans e1)) ?_;rw[Qk (i:=0) (by omega) rfl rfl];exact⟨s,rfl,hJ.step (Below.refl _ _) (by decide) (fun e=>absurd e (by decide))⟩
  | 1,ho,hd,hall=>
    obtain rfl:op1=o:=Option.some.inj ho;have h0:=hall ⟨0,.data⟩ (by simp) rfl;refine yh rfl rfl rfl (JM (ev 5 0 _ (by omega) rfl h0 rfl) m0) ?_;rw[Qk (i:=1) (by omega) rfl rfl];exact⟨s,rfl,hJ.step (Below.refl _ _) (by decide) (fun e=>absurd e (by decide))⟩
  | 2,ho,hd,hall=>
    obtain rfl:op2=o:=Option.some.inj ho;refine yh rfl rfl rfl (run_field2 ((el 1 (by decide)).trans e1)) ?_;rw[Qk (i:=2) (by omega) rfl rfl];exact⟨s,rfl,hJ.step (Below.refl _ _) (by decide) (fun e=>absurd e (by decide))⟩
  | 3,ho,hd,hall=>
    obtain rfl:op3=o:=Option.some.inj ho;have h2:=hall ⟨2,.data⟩ (by simp) rfl;refine yh rfl rfl rfl (JM (ev 7 2 _ (by omega) rfl h2 rfl) m2) ?_;rw[Qk (i:=3) (by omega) rfl rfl];exact⟨s,rfl,hJ.step (Below.refl _ _) (by decide) (fun e=>absurd e (by decide))⟩
  | 4,ho,hd,hall=>
    obtain rfl:op4=o:=Option.some.inj ho;refine yh rfl rfl rfl (JM ((el 2 (by decide)).trans e2) (hc w hJ.below)) ?_;rw[Qk (i:=4) (by omega) rfl rfl];exact⟨s,rfl,hJ.step (Below.refl _ _) (by decide) (fun e=>absurd e (by decide))⟩
  | 5,ho,hd,hall=>
    obtain rfl:op5=o:=Option.some.inj ho;have h4:=hall ⟨4,.data⟩ (by simp) rfl;refine yh rfl rfl rfl (run_eql (ev 9 4 _ (by omega) rfl h4 rfl) rfl ht) ?_;rw[Qk (i:=5) (by omega) rfl rfl];exact⟨s,rfl,hJ.step (Below.refl _ _) (by decide) (fun e=>absurd e (by decide))⟩
  | 6,ho,hd,hall=>
    obtain rfl:op6=o:=Option.some.inj ho;refine yh rfl rfl rfl (run_field5 ((el 1 (by decide)).trans e1)) ?_;rw[Qk (i:=6) (by omega) rfl rfl];exact⟨s,rfl,hJ.step (Below.refl _ _) (by decide) (fun e=>absurd e (by decide))⟩
  | 7,ho,hd,hall=>
    obtain rfl:op7=o:=Option.some.inj ho;have h6:=hall ⟨6,.data⟩ (by simp) rfl;refine yh rfl rfl rfl (run_loadB (ev 11 6 _ (by omega) rfl h6 rfl) m5) ?_;rw[Qk (i:=7) (by omega) rfl rfl];exact⟨s,rfl,hJ.step (Below.refl _ _) (by decide) (fun e=>absurd e (by decide))⟩
  | 8,ho,hd,hall=>
    obtain rfl:op8=o:=Option.some.inj ho;refine yh rfl rfl rfl (run_field8 ((el 1 (by decide)).trans e1)) ?_;rw[Qk (i:=8) (by omega) rfl rfl];exact⟨s,rfl,hJ.step (Below.refl _ _) (by decide) (fun e=>absurd e (by decide))⟩
  | 9,ho,hd,hall=>
    obtain rfl:op9=o:=Option.some.inj ho;have h8:=hall ⟨8,.data⟩ (by simp) rfl;refine yh rfl rfl rfl (run_loadB (ev 13 8 _ (by omega) rfl h8 rfl) m8) ?_;rw[Qk (i:=9) (by omega) rfl rfl];exact⟨s,rfl,hJ.step (Below.refl _ _) (by decide) (fun e=>absurd e (by decide))⟩
  | 10,ho,hd,hall=>
    obtain rfl:op10=o:=Option.some.inj ho;refine yh rfl rfl rfl (JM ((el 2 (by decide)).trans e2) (hc w hJ.below)) ?_;rw[Qk (i:=10) (by omega) rfl rfl];exact⟨s,rfl,hJ.step (Below.refl _ _) (by decide) (fun e=>absurd e (by decide))⟩
  | 11,ho,hd,hall=>
    obtain rfl:op11=o:=Option.some.inj ho;refine yh rfl rfl rfl (run_field10 ((el 1 (by decide)).trans e1)) ?_;rw[Qk (i:=11) (by omega) rfl rfl];exact⟨s,rfl,hJ.step (Below.refl _ _) (by decide) (fun e=>absurd e (by decide))⟩
  | 12,ho,hd,hall=>
    obtain rfl:op12=o:=Option.some.inj ho;have h11:=hall ⟨11,.data⟩ (by simp) rfl;refine yh rfl rfl rfl (run_loadQ (ev 16 11 _ (by omega) rfl h11 rfl) (m10.trans (by rw[hq]))) ?_;rw[Qk (i:=12) (by omega) rfl (by rw[← hq];rfl)];exact⟨s,rfl,hJ.step (Below.refl _ _) (by decide) (fun e=>absurd e (by decide))⟩
  | 13,ho,hd,hall=>
    obtain rfl:op13=o:=Option.some.inj ho;have h12:=hall ⟨12,.data⟩ (by simp) rfl;refine ghost_call rfl rfl rfl (run_call1 rfl (fun args=>callFunc_q args w) (ev 17 12 _ (by omega) rfl h12 rfl)) ?_;refine(cq w hJ.below).mono ?_;rintro e w' ⟨v',rfl,hB,ho'⟩;have n16:=hJ.n13 hd;have n17:=hJ.n17 n16;refine⟨_,rfl,?_⟩;rw[g_nums (s':=⟨v',s.r⟩) (fun i hi=>by
     have a1:i≠13:=fun e=>by rw[e,hd]at hi;cases hi
     have a2:i≠16:=fun e=>by rw[e,n16]at hi;cases hi
     unfold vOf;simp only[if_neg a1,if_neg a2])]
    rw[Qk (i:=13) (by omega) rfl rfl];have e15:xH d 13 15=d 15:=yD _ (by decide);have e16:xH d 13 16=d 16:=yD _ (by decide);have e17:xH d 13 17=d 17:=yD _ (by decide);have hlt:=hJ.lt;refine⟨⟨v',s.r⟩,rfl,hJ.below.trans (hB.mono hJ.below.size),?_,?_,?_,?_,?_,?_,?_,?_⟩ <;> simp only[e15,e16,e17]
    ·intro _;exact⟨qG ho' hJ.below.size,fun b hb=>by have:=(ho'.lt b hb).1;omega⟩
    ·intro h2;obtain⟨x,y⟩:=hJ.fr h2;exact⟨ownsRow_below x hB,y⟩
    ·intro _ h2 b hb hb2;have h3:=(ho'.lt b hb).1;have h4:=((hJ.fr h2).1.lt b hb2).2;omega
    ·intro h2;rw[ZZ]at h2;cases h2
    ·exact hJ.n15
    ·exact hJ.n17
    ·intro h2;exact(hJ.un h2).below hB
    ·intro h2;rw[n17]at h2;cases h2
  | 14,ho,hd,hall=>
    obtain rfl:op14=o:=Option.some.inj ho;refine yh rfl rfl rfl (run_move ((el 0 (by decide)).trans e0)) ?_;rw[Qk (i:=14) (by omega) rfl rfl];exact⟨s,rfl,hJ.step (Below.refl _ _) (by decide) (fun e=>absurd e (by decide))⟩
  | 15,ho,hd,hall=>
    obtain rfl:op15=o:=Option.some.inj ho;have h14:=hall ⟨14,.data⟩ (by simp) rfl;refine ghost_call rfl rfl rfl (run_call1 rfl (fun args=>callFunc_r args w) (ev 19 14 _ (by omega) rfl h14 rfl)) ?_;refine(cr w hJ.below).mono ?_;rintro e w' ⟨v',rfl,hB,ho'⟩;have n16:=hJ.n15 hd;have n17:=hJ.n17 n16;refine⟨_,rfl,?_⟩;rw[g_nums (s':=⟨s.q,v'⟩) (fun i hi=>by
     have a1:i≠15:=fun e=>by rw[e,hd]at hi;cases hi
     have a2:i≠16:=fun e=>by rw[e,n16]at hi;cases hi
     unfold vOf;simp only[if_neg a1,if_neg a2])]
    rw[Qk (i:=15) (by omega) rfl rfl];have e13:xH d 15 13=d 13:=yD _ (by decide);have e16:xH d 15 16=d 16:=yD _ (by decide);have e17:xH d 15 17=d 17:=yD _ (by decide);have hlt:=hJ.lt;refine⟨⟨s.q,v'⟩,rfl,hJ.below.trans (hB.mono hJ.below.size),?_,?_,?_,?_,?_,?_,?_,?_⟩ <;> simp only[e13,e16,e17]
    ·intro h2;obtain⟨x,y⟩:=hJ.fq h2;exact⟨ownsRow_below x hB,y⟩
    ·intro _;exact⟨qG ho' hJ.below.size,fun b hb=>by have:=(ho'.lt b hb).1;omega⟩
    ·intro h2 _ b hb hb2;have h3:=(ho'.lt b hb2).1;have h4:=((hJ.fq h2).1.lt b hb).2;omega
    ·exact hJ.n13
    ·intro h2;rw[ZZ]at h2;cases h2
    ·exact hJ.n17
    ·intro h2;exact(hJ.un h2).below hB
    ·intro h2;rw[n17]at h2;cases h2
  | 16,ho,hd,hall=>
    obtain rfl:op16=o:=Option.some.inj ho;have h1:=hall ⟨1,.data⟩ (by simp) rfl;have h3:=hall ⟨3,.data⟩ (by simp) rfl;have h5:=hall ⟨5,.data⟩ (by simp) rfl;have h7:=hall ⟨7,.data⟩ (by simp) rfl;have h9:=hall ⟨9,.data⟩ (by simp) rfl;have h10:=hall ⟨10,.data⟩ (by simp) rfl;have h13:=hall ⟨13,.data⟩ (by simp) rfl;have h15:=hall ⟨15,.data⟩ (by simp) rfl;obtain⟨aq,cq',hqv,-⟩:=qi (hJ.fq h13).1;obtain⟨ar,cr',hrv,-⟩:=qi (hJ.fr h15).1;refine yh rfl rfl rfl (run_build (ev 6 1 _ (by omega) rfl h1 rfl) rfl (ev 8 3 _ (by omega) rfl h3 rfl) (ev 10 5 _ (by omega) rfl h5 rfl) (ev 12 7 _ (by omega) rfl h7 rfl) (ev 14 9 _ (by omega) rfl h9 rfl) (ev 15 10 _ (by omega) rfl h10 rfl) ((ev 18 13 _ (by omega) rfl h13 rfl).trans hqv) ((ev 20 15 _ (by omega) rfl h15 rfl).trans hrv)) ?_;rw[← hqv,← hrv,Qk (i:=16) (by omega) rfl rfl];exact⟨s,rfl,hJ.step (Below.refl _ _) (by decide) (fun _=>⟨h13,h15⟩)⟩
  | 17,ho,hd,hall=>
    obtain rfl:op17=o:=Option.some.inj ho;have h16:=hall ⟨16,.data⟩ (by simp) rfl
    have h13:d 13=true:=by cases e:d 13;· rw[hJ.n13 e]at h16;cases h16
                           ·rfl
    have h15:d 15=true:=by cases e:d 15;· rw[hJ.n15 e]at h16;cases h16
                           ·rfl
    obtain⟨oq,bq⟩:=hJ.fq h13;obtain⟨or,br⟩:=hJ.fr h15;obtain⟨aq,cq',hqv,-⟩:=qi oq;obtain⟨ar,cr',hrv,-⟩:=qi or;obtain⟨W,hrun,hMB,hg⟩:=run_store (dst:=none) (ty:=0) (pos:=op17.pos) (af:=op17.after) (gd:=none) (h:=hdA p.h p.t p.c) ((el 4 (by decide)).trans e4) ((ev 21 16 _ (by omega) rfl h16 rfl).trans (by rw[hqv,hrv])) (hJ.un hd);refine ghost_skip rfl rfl rfl hrun ?_;rw[g_skip];have e13:xH d 17 13=d 13:=yD _ (by decide);have e15:xH d 17 15=d 15:=yD _ (by decide);have e16:xH d 17 16=d 16:=yD _ (by decide);have hbm:w0.heap.size≤p.bm:=hbm0;have kq:W.ownsRow w0.heap.size 78 3 s.q qs.length (xI qs):=qj oq fun b hb=>hg.block b (oq.lt b hb).2 (by simp only[ne_eq,Option.some.injEq];exact bq b hb);have kr:W.ownsRow w0.heap.size 80 5 s.r l.length (qp l):=qj or fun b hb=>hg.block b (or.lt b hb).2 (by simp only[ne_eq,Option.some.injEq];exact br b hb);refine⟨s,rfl,hJ.below.grown hg hJ.below.size (fun j hj=>by simp only[Option.some.injEq]at hj;omega),?_,?_,?_,?_,?_,?_,?_,?_⟩ <;> (try simp only[e13,e15,e16])
    ·intro _;exact⟨kq,bq⟩
    ·intro _;exact⟨kr,br⟩
    ·exact hJ.ap
    ·exact hJ.n13
    ·exact hJ.n15
    ·intro h2;rw[h16]at h2;cases h2
    ·intro h2;rw[ZZ]at h2;cases h2
    ·intro _;rw[hqv,hrv];exact hMB
  | i+18,ho,_,_=>simp at ho
 ·rintro d g X ⟨s,rfl,hJ⟩ hd;have h13:=hd 13 (by decide);have h15:=hd 15 (by decide);have:=fin s.q s.r (jY a (gOf p s d)).tmps X (by
   have h:=fillA_keep (a:=a) (g:=gOf p s d) (t:=4) (g_low (by decide));exact h.trans e4) hJ.below (hJ.st (hd 17 (by decide))) (hJ.fq h13).1 (hJ.fr h15).1 (hJ.ap h13 h15)
  exact this
end on
theorem one_any (bo bc:Nat)(h:Hd)(qs:List Qn)(hq:qs.length≤1000000000000)(q a u d:Value)(fq:yz q)(c:Int)(l:List Rec)(hl:l.length≤1000000)(v:Value)(hf:yz v)(w:World)(hm:qy w bo h q a u d)(hc:w.cell? ⟨bc,0,none⟩=some (.int .i64 c))(hcl:bc<w.heap.size)
 (rq:yu w q qs) (hrv:qm w v l):
 Calls Tryz.prog 36 #[v,.pointer (some ⟨bo,0,none⟩),.pointer (some ⟨bc,0,none⟩)] w fun e w'=>OnePost h (c == 0) c qs l w e w':=by
 obtain⟨w1,hw1⟩:∃X,X=w.alloc (.cells (yG hd0 qX qX qX qX).toArray 33):=⟨_,rfl⟩;obtain⟨hB1,hs1,hm1⟩:=zC hw1;obtain⟨bm,hbm⟩:∃b,b=w.heap.size:=⟨_,rfl⟩;rw[← hbm]at hm1;obtain⟨qa,qc,rfl,-⟩:=id rq;obtain⟨va,vc,rfl,-⟩:=id hrv;have HR:=qe hm1;have HM:=qe hm;have HW1:=qe hw1;have HBM:=qe hbm;have HB1:=qe hB1;have HC:=qe hc;have HCL:=qe hcl;have HRQ:=qe rq;have HRV:=qe hrv;have HF:=qe hf;have HFQ:=qe fq;have HQ:=qe hq;have HL:=qe hl;clear hw1 hB1 hs1 hm1 hbm hm hc hcl rq hrv hf fq hq hl
 go_enter Tryz.func36,Tryz.ntmps36
 go_upto_region 1 with fail;rw[← HW1.out,← HBM.out];refine on.region (p:=⟨bo,bc,bm,h,c == 0,c,.slice qa qs.length qc,.slice va l.length vc⟩) (qs:=qs) (l:=l) (w0:=w) (a0:=a) (u0:=u) (d0:=d) rfl rfl rfl rfl rfl rfl rfl (Nat.le_of_eq HBM.out.symm) HB1.out HR.out (fun X hX=>HM.out.below hX) (fun X hX=>(hX.cell (p:=⟨bc,0,none⟩) HCL.out).trans HC.out)
  (fun X hX=>cloneQns_any qs (by have:=HQ.out;omega) _ HFQ.out X (HRQ.out.below hX)) (fun X hX=>kV l (by have:=HL.out;omega) _ HF.out X (HRV.out.below hX)) ?_
 intro q r tm X h4 hB hMB hoq hor hap;go_wp2_with fail
 (try simp only[Exit.inBlock,Exit.then])
 exact msg_ret rfl h4 rfl hMB ⟨q,r,rfl,hB,hoq,hor,hap⟩
end Go.Proofs.YtpcmilhjpmlbpaaGreatDoor
