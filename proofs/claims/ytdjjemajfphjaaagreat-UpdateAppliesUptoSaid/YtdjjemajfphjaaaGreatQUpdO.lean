import Derived.Test.YtdjjemajfphjaaaGreatQUpdD
import Derived.Orders
import Derived.WalkKit
import Derived.Deep.CutBlock
set_option maxHeartbeats 2000000
namespace Go.Proofs.YtdjjemajfphjaaaGreat
open Go
def jq (a:Act)(g:Nat→Option Value):Act:={ a with tmps:=a.tmps.mapIdx fun t v=>(g t).getD v}
def uT (g:Nat→Option Value)(t:Nat)(v:Value):Nat→Option Value:=fun s=>if s=t then some v else g s
def jg (d:Nat→Bool)(i:Nat):Nat→Bool:=fun j=>if j=i then true else d j
theorem updG_same (g:Nat→Option Value)(t:Nat)(v:Value):uT g t v t=some v:=if_pos rfl
theorem Xm (g:Nat→Option Value){s t:Nat}(v:Value)(h:s≠t):uT g t v s=g s:=if_neg h
theorem uF (d:Nat→Bool)(i:Nat):jg d i i=true:=if_pos rfl
theorem qK (d:Nat→Bool){i j:Nat}(h:j≠i):jg d i j=d j:=if_neg h
theorem Ka (a:Act):jq a (fun _=>none)=a:=by
 unfold jq
 cases a
 simp only[Option.getD_none,Act.mk.injEq,and_true]
 apply Array.ext
 ·simp
 ·intro i h1 h2;simp
theorem JB (a:Act)(g:Nat→Option Value)(t:Nat)(v:Value):(jq a g).put (some t) v=jq a (uT g t v):=by
 unfold jq Act.put
 simp only[Act.mk.injEq,and_true]
 apply Array.ext
 ·simp
 ·intro i h1 h2
  have hi:i<(Array.mapIdx (fun t v=>(g t).getD v) a.tmps).size:=by simpa using h1
  rw[Array.getElem_setIfInBounds hi]
  simp only[Array.getElem_mapIdx,uT]
  by_cases h:t=i
  ·subst h;simp
  ·rw[if_neg h,if_neg (Ne.symm h)]
theorem fillA_some {a:Act}{g:Nat→Option Value}{t:Nat}{v:Value}(h:g t=some v)(ht:t<a.tmps.size):(jq a g).eval (.tmp t)=v:=by
 unfold jq Act.eval
 simp only[Array.getD_eq_getD_getElem?,Array.getElem?_mapIdx,Array.getElem?_eq_getElem ht,Option.map_some,Option.getD_some,h]
theorem fillA_keep {a:Act}{g:Nat→Option Value}{t:Nat}(h:g t=none):(jq a g).eval (.tmp t)=a.eval (.tmp t):=by
 unfold jq Act.eval
 simp only[Array.getD_eq_getD_getElem?,Array.getElem?_mapIdx,h]
 cases a.tmps[t]? <;> rfl
section
variable {P:Program}{ops:Array Oper}{Q:Exit→Act→World→Prop}{md:Region.Mode}{a:Act}
def topB (md:Region.Mode)(ops:Array Oper):Bool:=(List.range ops.size).all fun i=>((ops[i]?).map fun o=>o.after.all fun e=>!Region.binds md e || decide (e.on<i)).getD true
theorem all_listed {L:Array Bool}(ht:topB md ops=true)(hr:Region.ready md ops L= [])(hL:L.size=ops.size):∀i,i<ops.size→L.getD i false=true:=by
 intro i
 induction i using Nat.strongRecOn with
 | ind i ih=>
   intro hi
   cases hc:L.getD i false with
   | true=>rfl
   | false=>
     exfalso
     have hm:i∈Region.ready md ops L:=by
      rw[mem_ready]
      refine⟨?_,ops[i],by simp[hi],fun e he hb=>?_⟩
      ·have hlt:i<L.size:=by omega
       simp only[Array.getD_eq_getD_getElem?,Array.getElem?_eq_getElem hlt,Option.getD_some]at hc ⊢
       exact hc
      ·have h1:=List.all_eq_true.1 ht i (List.mem_range.2 hi)
       simp only[Array.getElem?_eq_getElem hi,Option.map_some,Option.getD_some]at h1
       have h2:=Array.all_eq_true_iff_forall_mem.1 h1 e he
       simp only[hb,Bool.not_true,Bool.false_or,decide_eq_true_eq]at h2
       exact ih e.on h2 (by omega)
     rw[hr]at hm
     cases hm
theorem wpAny_ghost (ht:topB md ops=true)(I:(Nat→Bool)→(Nat→Option Value)→World→Prop)
 (step:∀d g w,I d g w→∀i o,ops[i]? =some o→d i=false→(∀e∈o.after,Region.binds md e=true→d e.on=true)→
  wpOp P ops Q i (fun a' w'=>∃g',a'=jq a g'∧I (jg d i) g' w') (jq a g) w)
 (fin:∀d g w,I d g w→(∀i,i<ops.size→d i=true)→Q .normal (jq a g) w):
 ∀(n:Nat) (L:Array Bool) (g:Nat→Option Value) (w:World),L.size=ops.size→L.toList.count false≤n→I (fun j=>L.getD j false) g w→wpAny P md ops Q n L (jq a g) w:=by
 intro n
 induction n with
 | zero=>
   intro L g w hL hc hI
   have hr:Region.ready md ops L= []:=by
    rw[List.eq_nil_iff_forall_not_mem]
    intro i hi
    obtain⟨h0,o,ho,_⟩:=mem_ready.1 hi
    have hlt:i<L.size:=by rw[hL];exact(Array.getElem?_eq_some_iff.1 ho).1
    simp only[Array.getD_eq_getD_getElem?,Array.getElem?_eq_getElem hlt,Option.getD_some]at h0
    have:false∈L.toList:=by rw[← h0];simp
    have:=List.count_pos_iff.2 this
    omega
   exact⟨hr,fin _ _ _ hI (all_listed ht hr hL)⟩
 | succ n ih=>
   intro L g w hL hc hI
   refine⟨fun hr=>fin _ _ _ hI (all_listed ht hr hL),fun i hi=>?_⟩
   obtain⟨h0,o,ho,hall⟩:=mem_ready.1 hi
   have hlt:i<L.size:=by rw[hL];exact(Array.getElem?_eq_some_iff.1 ho).1
   have h0':L.getD i false=false:=by
    simp only[Array.getD_eq_getD_getElem?,Array.getElem?_eq_getElem hlt,Option.getD_some]at h0 ⊢
    exact h0
   refine wpOp_mono ?_ (step _ g w hI i o ho h0' hall)
   rintro a' w' ⟨g',rfl,hI'⟩
   refine ih (L.setIfInBounds i true) g' w' (by simpa using hL) ?_ ?_
   ·have hget:L.toList[i]'(by simpa using hlt)=false:=by
     simp only[Array.getD_eq_getD_getElem?,Array.getElem?_eq_getElem hlt,Option.getD_some]at h0
     simpa using h0
    rw[Array.toList_setIfInBounds,List.count_set (by simpa using hlt),hget]
    have e1:((false == false)=true):=rfl
    have e2:¬((true == false)=true):=by decide
    rw[if_pos e1,if_neg e2]
    omega
   ·have e:(fun j=>(L.setIfInBounds i true).getD j false)=jg (fun j=>L.getD j false) i:=by
     funext j
     unfold jg
     by_cases hj:j=i
     ·subst hj;simp[hlt]
     ·rw[if_neg hj,getD_set_ne false (Ne.symm hj)]
    rw[e]
    exact hI'
theorem Yv {id:Nat}{w:World}(I:(Nat→Bool)→(Nat→Option Value)→World→Prop)(hm:P.follows .mixedOrders=true)(ht:topB .any ops=true)
 (h0:I (fun _=>false) (fun _=>none) w.drew)
 (step:∀d g w,I d g w→∀i o,ops[i]? =some o→d i=false→(∀e∈o.after,Region.binds .any e=true→d e.on=true)→
  wpOp P ops Q i (fun a' w'=>∃g',a'=jq a g'∧I (jg d i) g' w') (jq a g) w)
 (fin:∀d g w,I d g w→(∀i,i<ops.size→d i=true)→Q .normal (jq a g) w):(Code.region id ops true).wp P Q a w:=by
 refine wp_region_any hm ?_
 have h:=wpAny_ghost ht I step fin ops.size (Array.replicate ops.size false) (fun _=>none) w.drew (by simp) (by simp) (by
  have e:(fun j=>(Array.replicate ops.size false).getD j false)=fun _=>false:=by
   funext j
   simp only[Array.getD_eq_getD_getElem?,Array.getElem?_replicate]
   split <;> rfl
  rw[e];exact h0)
 rw[Ka]at h
 exact h
variable {i:Nat}{o:Oper}{d:Nat→Bool}{g:Nat→Option Value}{w w':World}{I:(Nat→Bool)→(Nat→Option Value)→World→Prop}
theorem zA {t:Nat}{v:Value}(hi:ops[i]? =some o)(hg:o.guard=none)(hd:o.dst=some t)(hr:(execOp (jq a g).eval o).run P w= .ok (.value v) w')
 (hI:I (jg d i) (uT g t v) w'):wpOp P ops Q i (fun a' w'=>∃g',a'=jq a g'∧I (jg d i) g' w') (jq a g) w:=by
 unfold wpOp
 simp only[hi]
 rw[if_pos (by unfold Region.wanted;rw[hg])]
 refine .inl ?_
 unfold Oper.wp
 rw[hr]
 show ∃g',_∧_
 exact⟨_,by rw[hd];exact JB a g t v,hI⟩
theorem Yl (hi:ops[i]? =some o)(hg:o.guard=none)(hd:o.dst=none)(hr:(execOp (jq a g).eval o).run P w= .ok .skip w')
 (hI:I (jg d i) g w'):wpOp P ops Q i (fun a' w'=>∃g',a'=jq a g'∧I (jg d i) g' w') (jq a g) w:=by
 unfold wpOp
 simp only[hi]
 rw[if_pos (by unfold Region.wanted;rw[hg])]
 refine .inl ?_
 unfold Oper.wp
 rw[hr]
 show ∃g',_∧_
 exact⟨g,by rw[hd];rfl,hI⟩
theorem Ym {t:Nat}{f:FuncId}{args:Array Value}(hi:ops[i]? =some o)(hg:o.guard=none)(hd:o.dst=some t)(hr:(execOp (jq a g).eval o).run P w= .ok (.enter f args) w')
 (hc:Calls P f args w' fun e w''=>∃v,e= .returned v∧I (jg d i) (uT g t v) w''):wpOp P ops Q i (fun a' w'=>∃g',a'=jq a g'∧I (jg d i) g' w') (jq a g) w:=by
 unfold wpOp
 simp only[hi]
 rw[if_pos (by unfold Region.wanted;rw[hg])]
 refine .inl ?_
 unfold Oper.wp
 rw[hr,Oper.upon_enter]
 refine hc.mono ?_
 rintro e w'' ⟨v,rfl,h⟩
 exact⟨_,by rw[hd];exact JB a g t v,h⟩
end
end Go.Proofs.YtdjjemajfphjaaaGreat
namespace Go.Proofs.YtdjjemajfphjaaaGreat
open Go.RowKit Go.Shelf Go.WideMaps nm od
namespace th
@[reducible] def op0:Oper:={ dst:=some 43,op:=.move (.tmp 0),type:=26,pos:= "update.go:72",after:=#[],guard:=none}
@[reducible] def op1:Oper:={ dst:=some 44,op:=.fieldAddr 51 (.tmp 4) 0,type:=0,pos:= "update.go:72",after:=#[],guard:=none}
@[reducible] def op2:Oper:={ dst:=some 45,op:=.load 9 (.tmp 44),type:=9,pos:= "update.go:72",after:=#[{ on:=1,ground:=.data}],guard:=none}
@[reducible] def op3:Oper:={ dst:=some 46,op:=.call { callee:=.value (.func 72),args:=#[.tmp 43,.tmp 45],argTypes:=#[26,9]},type:=4,pos:= "update.go:72",after:=#[{ on:=0,ground:=.data},{ on:=2,ground:=.data}],guard:=none}
@[reducible] def op4:Oper:={ dst:=some 47,op:=.move (.tmp 7),type:=4,pos:= "update.go:72",after:=#[],guard:=none}
@[reducible] def op5:Oper:={ dst:=some 48,op:=.binOp .eql 4 (.tmp 46) (.tmp 47) 4,type:=4,pos:= "update.go:72",after:=#[{ on:=3,ground:=.data},{ on:=4,ground:=.data}],guard:=none}
@[reducible] def op6:Oper:={ dst:=some 49,op:=.makeMap 116 none,type:=116,pos:= "update.go:72",after:=#[],guard:=none}
@[reducible] def op7:Oper:={ dst:=none,op:=.insert 116 (.tmp 49) (.const (.bool true)) (.const (.int .i64 3)),type:=0,pos:= "update.go:72",after:=#[{ on:=6,ground:=.data}],guard:=none}
@[reducible] def op8:Oper:={ dst:=none,op:=.insert 116 (.tmp 49) (.const (.bool false)) (.const (.int .i64 6)),type:=0,pos:= "update.go:72",after:=#[{ on:=6,ground:=.data}],guard:=none}
@[reducible] def op9:Oper:={ dst:=some 50,op:=.move (.tmp 49),type:=116,pos:= "update.go:72",after:=#[{ on:=6,ground:=.data},{ on:=7,ground:=.data},{ on:=8,ground:=.data}],guard:=none}
@[reducible] def op10:Oper:={ dst:=some 51,op:=.move (.tmp 7),type:=4,pos:= "update.go:72",after:=#[],guard:=none}
@[reducible] def op11:Oper:={ dst:=some 52,op:=.lookup 116 (.tmp 50) (.tmp 51) false,type:=3,pos:= "update.go:72",after:=#[{ on:=9,ground:=.data},{ on:=10,ground:=.data}],guard:=none}
@[reducible] def op12:Oper:={ dst:=some 53,op:=.call { callee:=.value (.func 26),args:=#[.tmp 48,.tmp 52],argTypes:=#[4,3]},type:=0,pos:= "update.go:72",after:=#[{ on:=5,ground:=.data},{ on:=11,ground:=.data},{ on:=3,ground:=.chain}],guard:=none}
@[reducible] def ops:Array Oper:=#[op0,op1,op2,op3,op4,op5,op6,op7,op8,op9,op10,op11,op12]
def vOf (zp xp:Value)(n:ByteArray)(tb yes:Bool)(m:Nat)(i:Nat):Option Value:=
 if i=0 then some zp else if i=1 then some xp else if i=2 then some (.string n) else if i=3 then some (.bool tb) else if i=4 then some (.bool yes) else if i=5 then some (.bool (tb == yes)) else if i=6 then some (.map (some m))
 else if i=9 then some (.map (some m)) else if i=10 then some (.bool yes) else if i=11 then some (.int .i64 (if yes then 3 else 6)) else if i=12 then some (.tuple #[]) else none
def iOf (t:Nat):Nat:=if t<50 then t-43 else t-41
def gOf (zp xp:Value)(n:ByteArray)(tb yes:Bool)(m:Nat)(d:Nat→Bool)(t:Nat):Option Value:=
 if 43≤t∧t<54∧d (iOf t)=true then vOf zp xp n tb yes m (iOf t) else none
section
variable {zp xp:Value}{n:ByteArray}{tb yes:Bool}{m:Nat}{d:Nat→Bool}
theorem uo {i t:Nat}{v:Value}(ht:43≤t∧t<54)(hi:iOf t=i)(hv:vOf zp xp n tb yes m i=some v):uT (gOf zp xp n tb yes m d) t v=gOf zp xp n tb yes m (jg d i):=by
 funext s
 by_cases h:s=t
 ·subst h
  rw[updG_same]
  unfold gOf
  rw[hi,uF,if_pos ⟨ht.1,ht.2,rfl⟩,hv]
 ·rw[Xm _ _ h]
  unfold gOf
  by_cases hs:43≤s∧s<54
  ·have:iOf s≠i:=by
    rw[← hi]
    unfold iOf
    intro e
    split at e <;> split at e <;> omega
   rw[qK _ this]
  ·rw[if_neg (fun h=>hs ⟨h.1,h.2.1⟩),if_neg (fun h=>hs ⟨h.1,h.2.1⟩)]
theorem g_skip {i:Nat}(hi:i=7∨i=8):gOf zp xp n tb yes m d=gOf zp xp n tb yes m (jg d i):=by
 funext s
 unfold gOf
 by_cases hs:43≤s∧s<54
 ·have:iOf s≠i:=by
   unfold iOf
   intro e
   split at e <;> omega
  rw[qK _ this]
 ·rw[if_neg (fun h=>hs ⟨h.1,h.2.1⟩),if_neg (fun h=>hs ⟨h.1,h.2.1⟩)]
theorem g_at {t:Nat}(ht:43≤t∧t<54)(hd:d (iOf t)=true):gOf zp xp n tb yes m d t=vOf zp xp n tb yes m (iOf t):=if_pos ⟨ht.1,ht.2,hd⟩
theorem g_low {t:Nat}(ht:t<43):gOf zp xp n tb yes m d t=none:=if_neg (fun h=>by omega)
theorem g_other {m':Nat}(h:d 6=false)(h9:d 9=false):gOf zp xp n tb yes m d=gOf zp xp n tb yes m' d:=by
 funext s
 unfold gOf
 by_cases hs:43≤s∧s<54∧d (iOf s)=true
 ·rw[if_pos hs,if_pos hs]
  have h6:iOf s≠6:=fun e=>by rw[e,h]at hs;cases hs.2.2
  have h9':iOf s≠9:=fun e=>by rw[e,h9]at hs;cases hs.2.2
  unfold vOf
  simp only[if_neg h6,if_neg h9']
 ·rw[if_neg hs,if_neg hs]
end
def mF (d:Nat→Bool)(k:Bool):Option Int:=if k then(if d 7 then some 3 else none) else(if d 8 then some 6 else none)
structure J (wa:World)(go:Bool)(m:Nat)(d:Nat→Bool)(w:World):Prop where
 below:Below wa.heap.size wa w
 map:d 6=true→wa.heap.size≤m∧BM w m (mF d)
 o9:d 9=true→d 6=true∧d 7=true∧d 8=true
 o6:d 6=false→d 7=false∧d 8=false
 last:go=false→d 12=false
def I (wa:World)(zp xp:Value)(n:ByteArray)(tb yes go:Bool)(d:Nat→Bool)(g:Nat→Option Value)(w:World):Prop:=∃m,g=gOf zp xp n tb yes m d∧J wa go m d w
theorem J.step {wa w w':World}{go:Bool}{m:Nat}{d:Nat→Bool}(h:J wa go m d w)(hb:Below w.heap.size w w'){i:Nat}(hi:i≠6∧i≠7∧i≠8)(h9:i=9→d 6=true∧d 7=true∧d 8=true)(h12:i=12→go=true):J wa go m (jg d i) w':=by
 have e6:jg d i 6=d 6:=qK _ (Ne.symm hi.1)
 have e7:jg d i 7=d 7:=qK _ (Ne.symm hi.2.1)
 have e8:jg d i 8=d 8:=qK _ (Ne.symm hi.2.2)
 have em:mF (jg d i)=mF d:=by funext k;unfold mF;rw[e7,e8]
 refine⟨h.below.trans (hb.mono h.below.size),fun h6=>?_,fun hd9=>?_,fun h6=>?_,fun hg=>?_⟩
 ·rw[em];exact⟨(h.map (e6 ▸ h6)).1,(h.map (e6 ▸ h6)).2.below hb⟩
 ·rw[e6,e7,e8]
  by_cases hi9:i=9
  ·exact h9 hi9
  ·rw[qK _ (Ne.symm hi9)]at hd9
   exact h.o9 hd9
 ·rw[e7,e8];exact h.o6 (e6 ▸ h6)
 ·by_cases hi12:i=12
  ·rw[h12 hi12]at hg;cases hg
  ·rw[qK _ (Ne.symm hi12)];exact h.last hg
section
variable {ρ:Operand→Value}{dst:Option Tmp}{ty:TypeId}{pos:String}{af:Array Edge}{gd:Option (Nat×Bool)}{w w':World}
theorem run_move {x:Operand}{v:Value}(hx:ρ x=v):(execOp ρ ⟨dst,.move x,ty,pos,af,gd⟩).run Tryz.prog w= .ok (.value v) w:=by
 unfold execOp
 simp[hx]
theorem Xv {x:Operand}{b:Nat}(hx:ρ x= .pointer (some ⟨b,0,none⟩)):(execOp ρ ⟨dst,.fieldAddr 51 x 0,ty,pos,af,gd⟩).run Tryz.prog w= .ok (.value (.pointer (some ⟨b,0,none⟩))) w:=by
 unfold execOp
 simp only[hx]
 go_simp
theorem xV {x:Operand}{b:Nat}{s:ByteArray}(hx:ρ x= .pointer (some ⟨b,0,none⟩))(hc:w.cell? ⟨b,0,none⟩=some (.string s)):(execOp ρ ⟨dst,.load 9 x,ty,pos,af,gd⟩).run Tryz.prog w= .ok (.value (.string s)) w:=by
 unfold execOp
 simp only[hx]
 go_simp
theorem Jr {x y:Operand}{f:FuncId}{tys:Array TypeId}(hf:ρ (.func f)= .func (.func f) #[] #[])(he:∀args,(callFunc f args).run Tryz.prog w= .ok (.enter f args) w){u v:Value}(hx:ρ x=u)(hy:ρ y=v):
 (execOp ρ ⟨dst,.call { callee:=.value (.func f),args:=#[x,y],argTypes:=tys},ty,pos,af,gd⟩).run Tryz.prog w= .ok (.enter f #[u,v]) w:=by
 subst hx hy
 unfold execOp resolve
 simp only[hf]
 go_simp
theorem run_eqlB {x y:Operand}{p q:Bool}(hx:ρ x= .bool p)(hy:ρ y= .bool q):(execOp ρ ⟨dst,.binOp .eql 4 x y 4,ty,pos,af,gd⟩).run Tryz.prog w= .ok (.value (.bool (p == q))) w:=by
 unfold execOp
 simp only[hx,hy]
 go_simp
theorem run_makeMapB:(execOp ρ ⟨dst,.makeMap 116 none,ty,pos,af,gd⟩).run Tryz.prog w= .ok (.value (.map (some w.heap.size))) (w.alloc (.map #[] 0)):=by
 have hmm:=@run_makeMap Tryz.prog
 unfold execOp
 go_simp
theorem run_insB {x y z:Operand}{m:Nat}{k:Bool}{p:Int}(hx:ρ x= .map (some m))(hy:ρ y= .bool k)(hz:ρ z= .int .i64 p)(hr:(Instr.mapUpdate 116 (.map (some m)) (.bool k) (.int .i64 p)).run Tryz.prog w= .ok () w'):
 (execOp ρ ⟨dst,.insert 116 x y z,ty,pos,af,gd⟩).run Tryz.prog w= .ok .skip w':=by
 unfold execOp
 simp only[hx,hy,hz,Sem.run_bind,hr,Result.andThen_ok,Sem.run_pure]
theorem run_lookB {x y:Operand}{m:Nat}{k:Bool}{v:Value}(hx:ρ x= .map (some m))(hy:ρ y= .bool k)(hr:(Instr.lookup 116 (.map (some m)) (.bool k) false).run Tryz.prog w= .ok v w):
 (execOp ρ ⟨dst,.lookup 116 x y false,ty,pos,af,gd⟩).run Tryz.prog w= .ok (.value v) w:=by
 unfold execOp
 simp only[hx,hy,Sem.run_bind,hr,Result.andThen_ok,Sem.run_pure]
end
theorem callFunc_there (args:Array Value)(w:World):(callFunc 72 args).run Tryz.prog w= .ok (.enter 72 args) w:=by kernel_rfl
theorem callFunc_ask (args:Array Value)(w:World):(callFunc 26 args).run Tryz.prog w= .ok (.enter 26 args) w:=by kernel_rfl
def endA (a:Act)(zp xp:Value)(n:ByteArray)(tb yes:Bool)(m:Nat):Act:=
 (((((((((((a.put (some 43) zp).put (some 44) xp).put (some 45) (.string n)).put (some 46) (.bool tb)).put (some 47) (.bool yes)).put (some 48) (.bool (tb == yes))).put (some 49) (.map (some m))).put (some 50) (.map (some m))).put (some 51) (.bool yes)).put (some 52) (.int .i64 (if yes then 3 else 6))).put (some 53) (.tuple #[]))
theorem fill_end {a:Act}{zp xp:Value}{n:ByteArray}{tb yes:Bool}{m:Nat}{d:Nat→Bool}(hd:∀i,i<13→d i=true):jq a (gOf zp xp n tb yes m d)=endA a zp xp n tb yes m:=by
 have e:gOf zp xp n tb yes m d=uT (uT (uT (uT (uT (uT (uT (uT (uT (uT (uT (fun _=>none) 43 zp) 44 xp) 45 (.string n)) 46 (.bool tb)) 47 (.bool yes)) 48 (.bool (tb == yes))) 49 (.map (some m))) 50 (.map (some m))) 51 (.bool yes)) 52 (.int .i64 (if yes then 3 else 6))) 53 (.tuple #[]):=by
  funext t
  by_cases ht:43≤t∧t<54
  ·obtain⟨h1,h2⟩:=ht
   have hi:iOf t<13:=by unfold iOf;split <;> omega
   rw[g_at ⟨h1,h2⟩ (hd _ hi)]
   have:t=43∨t=44∨t=45∨t=46∨t=47∨t=48∨t=49∨t=50∨t=51∨t=52∨t=53:=by omega
   rcases this with rfl | rfl | rfl | rfl | rfl | rfl | rfl | rfl | rfl | rfl | rfl <;> rfl
  ·unfold gOf uT
   rw[if_neg (fun h=>ht ⟨h.1,h.2.1⟩)]
   simp only[if_neg (show ¬t=43 by omega),if_neg (show ¬t=44 by omega),if_neg (show ¬t=45 by omega),if_neg (show ¬t=46 by omega),if_neg (show ¬t=47 by omega),if_neg (show ¬t=48 by omega),if_neg (show ¬t=49 by omega),if_neg (show ¬t=50 by omega),if_neg (show ¬t=51 by omega),if_neg (show ¬t=52 by omega),if_neg (show ¬t=53 by omega)]
 rw[e]
 simp only[← JB,Ka]
 rfl
theorem Ku {id:Nat}{a:Act}{wa:World}{Q:Exit→Act→World→Prop}{zp:Value}{bx:Nat}{n:ByteArray}{tb yes:Bool}
 (e0:a.eval (.tmp 0)=zp) (e4:a.eval (.tmp 4)= .pointer (some ⟨bx,0,none⟩)) (e7:a.eval (.tmp 7)= .bool yes) (hsz:54≤a.tmps.size)
 (hc:∀X,Below wa.heap.size wa X→X.cell? ⟨bx,0,none⟩=some (.string n))
 (CT:∀X,Below wa.heap.size wa X→Calls Tryz.prog 72 #[zp,.string n] X fun e X'=>e= .returned (.bool tb)∧Below X.heap.size X X')
 (fin:tb=yes→∀m X,Below wa.heap.size wa X→Q .normal (endA a zp (.pointer (some ⟨bx,0,none⟩)) n tb yes m) X)
 (die:tb≠yes→∀g X,Below wa.heap.size wa X→Q (.panic (thrown (if yes then 3 else 6))) (jq a g) X):
 (Code.region id ops true).wp Tryz.prog Q a wa:=by
 refine Yv (I wa zp (.pointer (some ⟨bx,0,none⟩)) n tb yes (tb == yes)) (by kernel_rfl) (by kernel_rfl) ?_ ?_ ?_
 ·refine⟨0,?_,⟨(Below.refl _ wa).drew,nofun,nofun,fun _=>⟨rfl,rfl⟩,fun _=>rfl⟩⟩
  funext t
  unfold gOf
  rw[if_neg (fun h=>by cases h.2.2)]
 ·rintro d g w ⟨m,rfl,hJ⟩ i o ho hd hall
  have ev:∀t i v,43≤t∧t<54→iOf t=i→d i=true→vOf zp (.pointer (some ⟨bx,0,none⟩)) n tb yes m i=some v→(jq a (gOf zp (.pointer (some ⟨bx,0,none⟩)) n tb yes m d)).eval (.tmp t)=v:=fun t i v h1 h2 h3 h4=>fillA_some (by rw[g_at h1 (h2 ▸ h3),h2,h4]) (by omega)
  have el:∀t,t<43→(jq a (gOf zp (.pointer (some ⟨bx,0,none⟩)) n tb yes m d)).eval (.tmp t)=a.eval (.tmp t):=fun t h=>fillA_keep (g_low h)
  match i,ho,hd,hall with
  | 0,ho,hd,_=>
    obtain rfl:op0=o:=Option.some.inj ho
    refine zA rfl rfl rfl (run_move ((el 0 (by decide)).trans e0)) ?_
    rw[uo (i:=0) (by omega) rfl rfl]
    exact⟨m,rfl,hJ.step (Below.refl _ _) (by omega) (by omega) (by omega)⟩
  | 1,ho,hd,_=>
    obtain rfl:op1=o:=Option.some.inj ho
    refine zA rfl rfl rfl (Xv ((el 4 (by decide)).trans e4)) ?_
    rw[uo (i:=1) (by omega) rfl rfl]
    exact⟨m,rfl,hJ.step (Below.refl _ _) (by omega) (by omega) (by omega)⟩
  | 2,ho,hd,hall=>
    obtain rfl:op2=o:=Option.some.inj ho
    have h1:=hall ⟨1,.data⟩ (by simp) rfl
    refine zA rfl rfl rfl (xV (ev 44 1 _ (by omega) rfl h1 rfl) (hc _ hJ.below)) ?_
    rw[uo (i:=2) (by omega) rfl rfl]
    exact⟨m,rfl,hJ.step (Below.refl _ _) (by omega) (by omega) (by omega)⟩
  | 3,ho,hd,hall=>
    obtain rfl:op3=o:=Option.some.inj ho
    have h1:=hall ⟨0,.data⟩ (by simp) rfl
    have h2:=hall ⟨2,.data⟩ (by simp) rfl
    refine Ym rfl rfl rfl (Jr rfl (fun args=>callFunc_there args w) (ev 43 0 _ (by omega) rfl h1 rfl) (ev 45 2 _ (by omega) rfl h2 rfl)) ?_
    refine(CT w hJ.below).mono ?_
    rintro e w' ⟨rfl,hB⟩
    refine⟨_,rfl,?_⟩
    rw[uo (i:=3) (by omega) rfl rfl]
    exact⟨m,rfl,hJ.step hB (by omega) (by omega) (by omega)⟩
  | 4,ho,hd,_=>
    obtain rfl:op4=o:=Option.some.inj ho
    refine zA rfl rfl rfl (run_move ((el 7 (by decide)).trans e7)) ?_
    rw[uo (i:=4) (by omega) rfl rfl]
    exact⟨m,rfl,hJ.step (Below.refl _ _) (by omega) (by omega) (by omega)⟩
  | 5,ho,hd,hall=>
    obtain rfl:op5=o:=Option.some.inj ho
    have h1:=hall ⟨3,.data⟩ (by simp) rfl
    have h2:=hall ⟨4,.data⟩ (by simp) rfl
    refine zA rfl rfl rfl (run_eqlB (ev 46 3 _ (by omega) rfl h1 rfl) (ev 47 4 _ (by omega) rfl h2 rfl)) ?_
    rw[uo (i:=5) (by omega) rfl rfl]
    exact⟨m,rfl,hJ.step (Below.refl _ _) (by omega) (by omega) (by omega)⟩
  | 6,ho,hd,_=>
    obtain rfl:op6=o:=Option.some.inj ho
    have h9:d 9=false:=by
     cases h:d 9
     ·rfl
     ·have:=(hJ.o9 h).1;rw[hd]at this;cases this
    rw[g_other (m':=w.heap.size) hd h9]
    refine zA rfl rfl rfl run_makeMapB ?_
    rw[uo (i:=6) (by omega) rfl rfl]
    have e7':jg d 6 7=false:=(qK _ (by omega)).trans (hJ.o6 hd).1
    have e8':jg d 6 8=false:=(qK _ (by omega)).trans (hJ.o6 hd).2
    refine⟨w.heap.size,rfl,(hJ.below.alloc hJ.below.size _),fun _=>⟨hJ.below.size,?_⟩,fun h=>?_,fun h=>?_,fun h=>?_⟩
    ·have:mF (jg d 6)=fun _=>none:=by funext k;unfold mF;rw[e7',e8'];cases k <;> rfl
     rw[this];exact BM.made w
    ·rw[qK _ (by omega),h9]at h;cases h
    ·rw[uF]at h;cases h
    ·rw[qK _ (by omega)];exact hJ.last h
  | 7,ho,hd,hall=>
    obtain rfl:op7=o:=Option.some.inj ho
    have h1:=hall ⟨6,.data⟩ (by simp) rfl
    obtain⟨hm,hbm⟩:=hJ.map h1
    obtain⟨w1,g1,g2,g3⟩:=Vg hbm true (by unfold mF;rw[hd];rfl) 3
    refine Yl rfl rfl rfl (run_insB (ev 49 6 _ (by omega) rfl h1 rfl) rfl rfl g1) ?_
    rw[g_skip (i:=7) (.inl rfl)]
    refine⟨m,rfl,hJ.below.grown g2 hJ.below.size (fun j hj=>by cases hj;exact hm),fun _=>⟨hm,?_⟩,fun h=>?_,fun h=>?_,fun h=>?_⟩
    ·have:mF (jg d 7)=fun j=>if j=true then some 3 else mF d j:=by
      funext k;unfold mF;rw[uF,qK _ (show 8≠7 by omega)];cases k <;> simp
     rw[this];exact g3
    ·rw[qK _ (by omega)]at h
     have:=hJ.o9 h
     rw[hd]at this
     cases this.2.1
    ·rw[qK _ (by omega)]at h
     rw[h1]at h;cases h
    ·rw[qK _ (by omega)];exact hJ.last h
  | 8,ho,hd,hall=>
    obtain rfl:op8=o:=Option.some.inj ho
    have h1:=hall ⟨6,.data⟩ (by simp) rfl
    obtain⟨hm,hbm⟩:=hJ.map h1
    obtain⟨w1,g1,g2,g3⟩:=Vg hbm false (by unfold mF;rw[hd];rfl) 6
    refine Yl rfl rfl rfl (run_insB (ev 49 6 _ (by omega) rfl h1 rfl) rfl rfl g1) ?_
    rw[g_skip (i:=8) (.inr rfl)]
    refine⟨m,rfl,hJ.below.grown g2 hJ.below.size (fun j hj=>by cases hj;exact hm),fun _=>⟨hm,?_⟩,fun h=>?_,fun h=>?_,fun h=>?_⟩
    ·have:mF (jg d 8)=fun j=>if j=false then some 6 else mF d j:=by
      funext k;unfold mF;rw[uF,qK _ (show 7≠8 by omega)];cases k <;> simp
     rw[this];exact g3
    ·rw[qK _ (by omega)]at h
     have:=hJ.o9 h
     rw[hd]at this
     cases this.2.2
    ·rw[qK _ (by omega)]at h
     rw[h1]at h;cases h
    ·rw[qK _ (by omega)];exact hJ.last h
  | 9,ho,hd,hall=>
    obtain rfl:op9=o:=Option.some.inj ho
    have h6:=hall ⟨6,.data⟩ (by simp) rfl
    have h7:=hall ⟨7,.data⟩ (by simp) rfl
    have h8:=hall ⟨8,.data⟩ (by simp) rfl
    refine zA rfl rfl rfl (run_move (ev 49 6 _ (by omega) rfl h6 rfl)) ?_
    rw[uo (i:=9) (by omega) rfl rfl]
    exact⟨m,rfl,hJ.step (Below.refl _ _) (by omega) (fun _=>⟨h6,h7,h8⟩) (by omega)⟩
  | 10,ho,hd,_=>
    obtain rfl:op10=o:=Option.some.inj ho
    refine zA rfl rfl rfl (run_move ((el 7 (by decide)).trans e7)) ?_
    rw[uo (i:=10) (by omega) rfl rfl]
    exact⟨m,rfl,hJ.step (Below.refl _ _) (by omega) (by omega) (by omega)⟩
  | 11,ho,hd,hall=>
    obtain rfl:op11=o:=Option.some.inj ho
    have h9:=hall ⟨9,.data⟩ (by simp) rfl
    have h10:=hall ⟨10,.data⟩ (by simp) rfl
    obtain⟨h6,h7,h8⟩:=hJ.o9 h9
    obtain⟨hm,hbm⟩:=hJ.map h6
    refine zA rfl rfl rfl (run_lookB (ev 50 9 _ (by omega) rfl h9 rfl) (ev 51 10 _ (by omega) rfl h10 rfl) (bm_look hbm (p:=if yes then 3 else 6) (by unfold mF;rw[h7,h8];cases yes <;> rfl))) ?_
    rw[uo (i:=11) (by omega) rfl rfl]
    exact⟨m,rfl,hJ.step (Below.refl _ _) (by omega) (by omega) (by omega)⟩
  | 12,ho,hd,hall=>
    obtain rfl:op12=o:=Option.some.inj ho
    have h5:=hall ⟨5,.data⟩ (by simp) rfl
    have h11:=hall ⟨11,.data⟩ (by simp) rfl
    have hrun:=Jr (dst:=some 53) (ty:=0) (pos:= "update.go:72") (af:=#[{ on:=5,ground:=.data},{ on:=11,ground:=.data},{ on:=3,ground:=.chain}]) (gd:=none) (tys:=#[4,3]) (w:=w) (ρ:=(jq a (gOf zp (.pointer (some ⟨bx,0,none⟩)) n tb yes m d)).eval) (f:=26) rfl (fun args=>callFunc_ask args w) (ev 48 5 _ (by omega) rfl h5 rfl) (ev 52 11 _ (by omega) rfl h11 rfl)
    by_cases hq:tb=yes
    ·have hb:(tb == yes)=true:=by rw[beq_iff_eq];exact hq
     rw[hb]at hrun
     refine Ym rfl rfl rfl hrun ?_
     refine(j3 _ w).mono ?_
     rintro e w' ⟨rfl,rfl⟩
     refine⟨_,rfl,?_⟩
     rw[uo (i:=12) (by omega) rfl rfl]
     exact⟨m,rfl,hJ.step (Below.refl _ _) (by omega) (by omega) (fun _=>hb)⟩
    ·have hb:(tb == yes)=false:=by rw[beq_eq_false_iff_ne];exact hq
     rw[hb]at hrun
     have hi:ops[12]? =some op12:=rfl
     unfold wpOp
     simp only[hi]
     rw[if_pos (by unfold Region.wanted;rfl)]
     refine .inl ?_
     unfold Oper.wp
     rw[hrun,Oper.upon_enter]
     refine(jw _ w).mono ?_
     rintro e w' ⟨rfl,rfl⟩
     exact die hq _ _ hJ.below
  | k+13,ho,_,_=>cases ho
 ·rintro d g w ⟨m,rfl,hJ⟩ hall
  by_cases hq:tb=yes
  ·rw[fill_end (fun i hi=>hall i hi)]
   exact fin hq m w hJ.below
  ·have hb:(tb == yes)=false:=by rw[beq_eq_false_iff_ne];exact hq
   have h1:=hJ.last hb
   rw[hall 12 (by decide)]at h1
   cases h1
end th
end Go.Proofs.YtdjjemajfphjaaaGreat
