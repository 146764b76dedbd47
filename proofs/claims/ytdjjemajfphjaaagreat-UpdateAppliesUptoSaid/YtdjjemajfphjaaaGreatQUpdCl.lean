import Derived.Test.YtdjjemajfphjaaaGreatQUpdTk
import Derived.Test.YtdjjemajfphjaaaGreatQUpdO
import Derived.Test.YtdjjemajfphjaaaGreatQUpdU
set_option maxRecDepth 100000
set_option maxHeartbeats 4000000
namespace Go.Proofs.YtdjjemajfphjaaaGreat
open Go.RowKit Go.Shelf nm od
namespace cl
@[reducible] def op0:Oper:={ dst:=some 6,op:=.fieldAddr 51 (.tmp 3) 0,type:=0,pos:= "update.go:209",after:=#[],guard:=none}
@[reducible] def op1:Oper:={ dst:=some 7,op:=.load 9 (.tmp 6),type:=9,pos:= "update.go:209",after:=#[{ on:=0,ground:=.data}],guard:=none}
@[reducible] def op2:Oper:={ dst:=some 8,op:=.call { callee:=.value (.func 83),args:=#[.tmp 7],argTypes:=#[9]},type:=114,pos:= "update.go:209",after:=#[{ on:=1,ground:=.data}],guard:=none}
@[reducible] def op3:Oper:={ dst:=some 9,op:=.fieldAddr 51 (.tmp 3) 0,type:=0,pos:= "update.go:209",after:=#[],guard:=none}
@[reducible] def op4:Oper:={ dst:=some 10,op:=.load 9 (.tmp 9),type:=9,pos:= "update.go:209",after:=#[{ on:=3,ground:=.data}],guard:=none}
@[reducible] def op5:Oper:={ dst:=some 11,op:=.move (.tmp 0),type:=78,pos:= "update.go:209",after:=#[],guard:=none}
@[reducible] def op6:Oper:={ dst:=some 12,op:=.nilCheck (.tmp 11),type:=0,pos:= "update.go:209",after:=#[{ on:=5,ground:=.data}],guard:=none}
@[reducible] def op7:Oper:={ dst:=some 13,op:=.fieldAddr 80 (.tmp 12) 0,type:=0,pos:= "update.go:209",after:=#[{ on:=6,ground:=.data}],guard:=none}
@[reducible] def op8:Oper:={ dst:=some 14,op:=.load 9 (.tmp 13),type:=9,pos:= "update.go:209",after:=#[{ on:=7,ground:=.data}],guard:=none}
@[reducible] def op9:Oper:={ dst:=some 15,op:=.call { callee:=.value (.func 28),args:=#[.tmp 10,.tmp 14],argTypes:=#[9,9]},type:=4,pos:= "update.go:209",after:=#[{ on:=4,ground:=.data},{ on:=8,ground:=.data},{ on:=2,ground:=.chain}],guard:=none}
@[reducible] def op10:Oper:={ dst:=some 4,op:=.alloc 114,type:=0,pos:= "update.go:209",after:=#[],guard:=none}
@[reducible] def op11:Oper:={ dst:=some 5,op:=.alloc 4,type:=0,pos:= "update.go:209",after:=#[],guard:=none}
@[reducible] def af12:Array Edge:=#[{ on:=10,ground:=.data},{ on:=2,ground:=.data},{ on:=9,ground:=.chain},{ on:=0,ground:=.phase},{ on:=1,ground:=.phase},{ on:=2,ground:=.phase},{ on:=3,ground:=.textOnly .lateStores},{ on:=4,ground:=.textOnly .lateStores},{ on:=5,ground:=.textOnly .lateStores},{ on:=6,ground:=.textOnly .lateStores},{ on:=7,ground:=.textOnly .lateStores},{ on:=8,ground:=.textOnly .lateStores},{ on:=9,ground:=.textOnly .lateStoresUnsure},{ on:=10,ground:=.phase},{ on:=11,ground:=.phase}]
@[reducible] def op12:Oper:={ dst:=none,op:=.store 114 (.tmp 4) (.tmp 8),type:=0,pos:= "update.go:209",after:=af12,guard:=none}
@[reducible] def af13:Array Edge:=#[{ on:=11,ground:=.data},{ on:=9,ground:=.data},{ on:=12,ground:=.chain},{ on:=0,ground:=.phase},{ on:=1,ground:=.phase},{ on:=2,ground:=.phase},{ on:=3,ground:=.phase},{ on:=4,ground:=.phase},{ on:=5,ground:=.phase},{ on:=6,ground:=.phase},{ on:=7,ground:=.phase},{ on:=8,ground:=.phase},{ on:=9,ground:=.phase},{ on:=10,ground:=.phase},{ on:=11,ground:=.phase},{ on:=12,ground:=.phase}]
@[reducible] def op13:Oper:={ dst:=none,op:=.store 4 (.tmp 5) (.tmp 15),type:=0,pos:= "update.go:209",after:=af13,guard:=none}
@[reducible] def ops:Array Oper:=#[op0,op1,op2,op3,op4,op5,op6,op7,op8,op9,op10,op11,op12,op13]
structure Nums where
 bn:Nat
 b4:Nat
 b5:Nat
abbrev fnV (bn:Nat):Value:=.func (.func 142) #[] #[.pointer (some ⟨bn,0,none⟩)]
def vOf (bx st:Nat)(n qf:ByteArray)(eb:Bool)(s:Nums)(i:Nat):Option Value:=
 if i=0 then some (.pointer (some ⟨bx,0,none⟩)) else if i=1 then some (.string n) else if i=2 then some (fnV s.bn) else if i=3 then some (.pointer (some ⟨bx,0,none⟩)) else if i=4 then some (.string n)
 else if i=5 then some (.pointer (some ⟨st,0,none⟩)) else if i=6 then some (.pointer (some ⟨st,0,none⟩)) else if i=7 then some (.pointer (some ⟨st,0,none⟩)) else if i=8 then some (.string qf) else if i=9 then some (.bool eb)
 else if i=10 then some (.pointer (some ⟨s.b4,0,none⟩)) else if i=11 then some (.pointer (some ⟨s.b5,0,none⟩)) else none
def iOf (t:Nat):Nat:=if t<6 then t+6 else t-6
def gOf (bx st:Nat)(n qf:ByteArray)(eb:Bool)(s:Nums)(d:Nat→Bool)(t:Nat):Option Value:=
 if 4≤t∧t<16∧d (iOf t)=true then vOf bx st n qf eb s (iOf t) else none
section
variable {bx st:Nat}{n qf:ByteArray}{eb:Bool}{s:Nums}{d:Nat→Bool}
theorem uo {i t:Nat}{v:Value}(ht:4≤t∧t<16)(hi:iOf t=i)(hv:vOf bx st n qf eb s i=some v):uT (gOf bx st n qf eb s d) t v=gOf bx st n qf eb s (jg d i):=by
 funext k
 by_cases h:k=t
 ·subst h
  rw[updG_same]
  unfold gOf
  rw[hi,uF,if_pos ⟨ht.1,ht.2,rfl⟩,hv]
 ·rw[Xm _ _ h]
  unfold gOf
  by_cases hs:4≤k∧k<16
  ·have:iOf k≠i:=by
    rw[← hi]
    unfold iOf
    intro e
    split at e <;> split at e <;> omega
   rw[qK _ this]
  ·rw[if_neg (fun h=>hs ⟨h.1,h.2.1⟩),if_neg (fun h=>hs ⟨h.1,h.2.1⟩)]
theorem g_skip {i:Nat}(hi:i=12∨i=13):gOf bx st n qf eb s d=gOf bx st n qf eb s (jg d i):=by
 funext k
 unfold gOf
 by_cases hs:4≤k∧k<16
 ·have:iOf k≠i:=by
   unfold iOf
   intro e
   split at e <;> omega
  rw[qK _ this]
 ·rw[if_neg (fun h=>hs ⟨h.1,h.2.1⟩),if_neg (fun h=>hs ⟨h.1,h.2.1⟩)]
theorem g_at {t:Nat}(ht:4≤t∧t<16)(hd:d (iOf t)=true):gOf bx st n qf eb s d t=vOf bx st n qf eb s (iOf t):=if_pos ⟨ht.1,ht.2,hd⟩
theorem g_low {t:Nat}(ht:t<4):gOf bx st n qf eb s d t=none:=if_neg (fun h=>by omega)
theorem g_nums {s':Nums}(h:∀i,d i=true→vOf bx st n qf eb s i=vOf bx st n qf eb s' i):gOf bx st n qf eb s d=gOf bx st n qf eb s' d:=by
 funext k
 unfold gOf
 by_cases hs:4≤k∧k<16∧d (iOf k)=true
 ·rw[if_pos hs,if_pos hs,h _ hs.2.2]
 ·rw[if_neg hs,if_neg hs]
end
structure J (wa:World)(n:ByteArray)(eb:Bool)(s:Nums)(d:Nat→Bool)(w:World):Prop where
 below:Below wa.heap.size wa w
 nm:d 2=true→wa.heap.size≤s.bn∧s.bn<w.heap.size∧w.cell? ⟨s.bn,0,none⟩=some (.string (qm n))
 fn:d 10=true→wa.heap.size≤s.b4∧w.heap[s.b4]? =some (.cells #[if d 12 then fnV s.bn else .nilFunc] 114 (0,0))
 an:d 11=true→wa.heap.size≤s.b5∧w.heap[s.b5]? =some (.cells #[.bool (if d 13 then eb else false)] 4 (0,0))
 o12:d 10=false→d 12=false
 o12':d 2=false→d 12=false
 o13:d 11=false→d 13=false
 n1:d 2=true→d 10=true→s.bn≠s.b4
 n2:d 2=true→d 11=true→s.bn≠s.b5
 n3:d 10=true→d 11=true→s.b4≠s.b5
def I (wa:World)(bx st:Nat)(n qf:ByteArray)(eb:Bool)(d:Nat→Bool)(g:Nat→Option Value)(w:World):Prop:=∃s,g=gOf bx st n qf eb s d∧J wa n eb s d w
theorem J.step {wa w w':World}{n:ByteArray}{eb:Bool}{s:Nums}{d:Nat→Bool}(h:J wa n eb s d w)(hb:Below w.heap.size w w'){i:Nat}(hi:i≠2∧i≠10∧i≠11∧i≠12∧i≠13):J wa n eb s (jg d i) w':=by
 have e2:jg d i 2=d 2:=qK _ (Ne.symm hi.1)
 have e10:jg d i 10=d 10:=qK _ (Ne.symm hi.2.1)
 have e11:jg d i 11=d 11:=qK _ (Ne.symm hi.2.2.1)
 have e12:jg d i 12=d 12:=qK _ (Ne.symm hi.2.2.2.1)
 have e13:jg d i 13=d 13:=qK _ (Ne.symm hi.2.2.2.2)
 refine⟨h.below.trans (hb.mono h.below.size),?_,?_,?_,?_,?_,?_,?_,?_,?_⟩ <;> simp only[e2,e10,e11,e12,e13]
 ·intro h2;obtain⟨a,b,c⟩:=h.nm h2;exact⟨a,Nat.lt_of_lt_of_le b hb.size,(hb.cell (p:=⟨s.bn,0,none⟩) b).trans c⟩
 ·intro h2;obtain⟨a,b⟩:=h.fn h2;exact⟨a,(hb.block _ (qw b)).trans b⟩
 ·intro h2;obtain⟨a,b⟩:=h.an h2;exact⟨a,(hb.block _ (qw b)).trans b⟩
 ·exact h.o12
 ·exact h.o12'
 ·exact h.o13
 ·exact h.n1
 ·exact h.n2
 ·exact h.n3
section
variable {ρ:Operand→Value}{dst:Option Tmp}{ty:TypeId}{pos:String}{af:Array Edge}{gd:Option (Nat×Bool)}{w w':World}
theorem run_move {x:Operand}{v:Value}(hx:ρ x=v):(execOp ρ ⟨dst,.move x,ty,pos,af,gd⟩).run Tryz.prog w= .ok (.value v) w:=by
 unfold execOp
 simp[hx]
theorem YR {x:Operand}{b:Nat}(hx:ρ x= .pointer (some ⟨b,0,none⟩)):(execOp ρ ⟨dst,.fieldAddr 51 x 0,ty,pos,af,gd⟩).run Tryz.prog w= .ok (.value (.pointer (some ⟨b,0,none⟩))) w:=by
 unfold execOp
 simp only[hx]
 go_simp
theorem Xu {x:Operand}{b:Nat}(hx:ρ x= .pointer (some ⟨b,0,none⟩)):(execOp ρ ⟨dst,.fieldAddr 80 x 0,ty,pos,af,gd⟩).run Tryz.prog w= .ok (.value (.pointer (some ⟨b,0,none⟩))) w:=by
 unfold execOp
 simp only[hx]
 go_simp
theorem run_nilCheck {x:Operand}{b:Nat}(hx:ρ x= .pointer (some ⟨b,0,none⟩)):(execOp ρ ⟨dst,.nilCheck x,ty,pos,af,gd⟩).run Tryz.prog w= .ok (.value (.pointer (some ⟨b,0,none⟩))) w:=by
 unfold execOp
 simp only[hx]
 go_simp
theorem xV {x:Operand}{b:Nat}{s:ByteArray}(hx:ρ x= .pointer (some ⟨b,0,none⟩))(hc:w.cell? ⟨b,0,none⟩=some (.string s)):(execOp ρ ⟨dst,.load 9 x,ty,pos,af,gd⟩).run Tryz.prog w= .ok (.value (.string s)) w:=by
 unfold execOp
 simp only[hx]
 go_simp
theorem run_call1 {x:Operand}{f:FuncId}{tys:Array TypeId}(hf:ρ (.func f)= .func (.func f) #[] #[])(he:∀args,(callFunc f args).run Tryz.prog w= .ok (.enter f args) w){u:Value}(hx:ρ x=u):
 (execOp ρ ⟨dst,.call { callee:=.value (.func f),args:=#[x],argTypes:=tys},ty,pos,af,gd⟩).run Tryz.prog w= .ok (.enter f #[u]) w:=by
 subst hx
 unfold execOp resolve
 simp only[hf]
 go_simp
theorem Jr {x y:Operand}{f:FuncId}{tys:Array TypeId}(hf:ρ (.func f)= .func (.func f) #[] #[])(he:∀args,(callFunc f args).run Tryz.prog w= .ok (.enter f args) w){u v:Value}(hx:ρ x=u)(hy:ρ y=v):
 (execOp ρ ⟨dst,.call { callee:=.value (.func f),args:=#[x,y],argTypes:=tys},ty,pos,af,gd⟩).run Tryz.prog w= .ok (.enter f #[u,v]) w:=by
 subst hx hy
 unfold execOp resolve
 simp only[hf]
 go_simp
theorem run_allocF:(execOp ρ ⟨dst,.alloc 114,ty,pos,af,gd⟩).run Tryz.prog w= .ok (.value (.pointer (some ⟨w.heap.size,0,none⟩))) (w.alloc (.cells #[.nilFunc] 114)):=by
 unfold execOp
 go_simp
theorem run_allocB:(execOp ρ ⟨dst,.alloc 4,ty,pos,af,gd⟩).run Tryz.prog w= .ok (.value (.pointer (some ⟨w.heap.size,0,none⟩))) (w.alloc (.cells #[.bool false] 4)):=by
 unfold execOp
 go_simp
theorem run_storeF {x y:Operand}{b bn:Nat}{v0:Value}(hx:ρ x= .pointer (some ⟨b,0,none⟩))(hy:ρ y=fnV bn)(hc:w.cell? ⟨b,0,none⟩=some v0)(hz:w.frozen? ⟨b,0,none⟩=false):
 (execOp ρ ⟨dst,.store 114 x y,ty,pos,af,gd⟩).run Tryz.prog w= .ok .skip (w.setCell ⟨b,0,none⟩ (fnV bn)):=by
 unfold execOp
 simp only[hx,hy]
 go_simp
theorem run_storeB {x y:Operand}{b:Nat}{v0:Value}{u:Bool}(hx:ρ x= .pointer (some ⟨b,0,none⟩))(hy:ρ y= .bool u)(hc:w.cell? ⟨b,0,none⟩=some v0)(hz:w.frozen? ⟨b,0,none⟩=false):
 (execOp ρ ⟨dst,.store 4 x y,ty,pos,af,gd⟩).run Tryz.prog w= .ok .skip (w.setCell ⟨b,0,none⟩ (.bool u)):=by
 unfold execOp
 simp only[hx,hy]
 go_simp
end
theorem callFunc_at (args:Array Value)(w:World):(callFunc 83 args).run Tryz.prog w= .ok (.enter 83 args) w:=by kernel_rfl
theorem callFunc_equal (args:Array Value)(w:World):(callFunc 28 args).run Tryz.prog w= .ok (.enter 28 args) w:=by kernel_rfl
def endA (a:Act)(bx st:Nat)(n qf:ByteArray)(eb:Bool)(s:Nums):Act:=
 ((((((((((((a.put (some 4) (.pointer (some ⟨s.b4,0,none⟩))).put (some 5) (.pointer (some ⟨s.b5,0,none⟩))).put (some 6) (.pointer (some ⟨bx,0,none⟩))).put (some 7) (.string n)).put (some 8) (fnV s.bn)).put (some 9) (.pointer (some ⟨bx,0,none⟩))).put (some 10) (.string n)).put (some 11) (.pointer (some ⟨st,0,none⟩))).put (some 12) (.pointer (some ⟨st,0,none⟩))).put (some 13) (.pointer (some ⟨st,0,none⟩))).put (some 14) (.string qf)).put (some 15) (.bool eb))
theorem fill_end {a:Act}{bx st:Nat}{n qf:ByteArray}{eb:Bool}{s:Nums}{d:Nat→Bool}(hd:∀i,i<14→d i=true):jq a (gOf bx st n qf eb s d)=endA a bx st n qf eb s:=by
 have e:gOf bx st n qf eb s d=uT (uT (uT (uT (uT (uT (uT (uT (uT (uT (uT (uT (fun _=>none) 4 (.pointer (some ⟨s.b4,0,none⟩))) 5 (.pointer (some ⟨s.b5,0,none⟩))) 6 (.pointer (some ⟨bx,0,none⟩))) 7 (.string n)) 8 (fnV s.bn)) 9 (.pointer (some ⟨bx,0,none⟩))) 10 (.string n)) 11 (.pointer (some ⟨st,0,none⟩))) 12 (.pointer (some ⟨st,0,none⟩))) 13 (.pointer (some ⟨st,0,none⟩))) 14 (.string qf)) 15 (.bool eb):=by
  funext t
  by_cases ht:4≤t∧t<16
  ·obtain⟨h1,h2⟩:=ht
   have hi:iOf t<14:=by unfold iOf;split <;> omega
   rw[g_at ⟨h1,h2⟩ (hd _ hi)]
   have:t=4∨t=5∨t=6∨t=7∨t=8∨t=9∨t=10∨t=11∨t=12∨t=13∨t=14∨t=15:=by omega
   rcases this with rfl | rfl | rfl | rfl | rfl | rfl | rfl | rfl | rfl | rfl | rfl | rfl <;> rfl
  ·unfold gOf uT
   rw[if_neg (fun h=>ht ⟨h.1,h.2.1⟩)]
   simp only[if_neg (show ¬t=4 by omega),if_neg (show ¬t=5 by omega),if_neg (show ¬t=6 by omega),if_neg (show ¬t=7 by omega),if_neg (show ¬t=8 by omega),if_neg (show ¬t=9 by omega),if_neg (show ¬t=10 by omega),if_neg (show ¬t=11 by omega),if_neg (show ¬t=12 by omega),if_neg (show ¬t=13 by omega),if_neg (show ¬t=14 by omega),if_neg (show ¬t=15 by omega)]
 rw[e]
 simp only[← JB,Ka]
 rfl
theorem clear_region {id:Nat}{a:Act}{wa:World}{Q:Exit→Act→World→Prop}{bx st:Nat}{n qf:ByteArray}{eb:Bool}(heb:eb=qz n qf)
 (e0:a.eval (.tmp 0)= .pointer (some ⟨st,0,none⟩)) (e3:a.eval (.tmp 3)= .pointer (some ⟨bx,0,none⟩)) (hsz:16≤a.tmps.size)
 (hc:∀X,Below wa.heap.size wa X→X.cell? ⟨bx,0,none⟩=some (.string n))
 (hs:∀X,Below wa.heap.size wa X→X.cell? ⟨st,0,none⟩=some (.string qf))
 (fin:∀s X,Below wa.heap.size wa X→uE X s.b4 s.bn (qm n)→X.cell? ⟨s.b5,0,none⟩=some (.bool eb)→s.b5<X.heap.size→Q .normal (endA a bx st n qf eb s) X):
 (Code.region id ops true).wp Tryz.prog Q a wa:=by
 refine Yv (I wa bx st n qf eb) (by kernel_rfl) (by kernel_rfl) ?_ ?_ ?_
 ·refine⟨⟨0,0,0⟩,?_,⟨(Below.refl _ wa).drew,nofun,nofun,nofun,fun _=>rfl,fun _=>rfl,fun _=>rfl,nofun,nofun,nofun⟩⟩
  funext t
  unfold gOf
  rw[if_neg (fun h=>by cases h.2.2)]
 ·rintro d g w ⟨s,rfl,hJ⟩ i o ho hd hall
  have ev:∀t i v,4≤t∧t<16→iOf t=i→d i=true→vOf bx st n qf eb s i=some v→(jq a (gOf bx st n qf eb s d)).eval (.tmp t)=v:=fun t i v h1 h2 h3 h4=>fillA_some (by rw[g_at h1 (h2 ▸ h3),h2,h4]) (by omega)
  have el:∀t,t<4→(jq a (gOf bx st n qf eb s d)).eval (.tmp t)=a.eval (.tmp t):=fun t h=>fillA_keep (g_low h)
  match i,ho,hd,hall with
  | 0,ho,hd,_=>
    obtain rfl:op0=o:=Option.some.inj ho
    refine zA rfl rfl rfl (YR ((el 3 (by decide)).trans e3)) ?_
    rw[uo (i:=0) (by omega) rfl rfl]
    exact⟨s,rfl,hJ.step (Below.refl _ _) (by omega)⟩
  | 1,ho,hd,hall=>
    obtain rfl:op1=o:=Option.some.inj ho
    have h1:=hall ⟨0,.data⟩ (by simp) rfl
    refine zA rfl rfl rfl (xV (ev 6 0 _ (by omega) rfl h1 rfl) (hc _ hJ.below)) ?_
    rw[uo (i:=1) (by omega) rfl rfl]
    exact⟨s,rfl,hJ.step (Below.refl _ _) (by omega)⟩
  | 2,ho,hd,hall=>
    obtain rfl:op2=o:=Option.some.inj ho
    have h1:=hall ⟨1,.data⟩ (by simp) rfl
    have d12:=hJ.o12' hd
    refine Ym rfl rfl rfl (run_call1 rfl (fun args=>callFunc_at args w) (ev 7 1 _ (by omega) rfl h1 rfl)) ?_
    refine(Xe n w).mono ?_
    rintro e w' ⟨rfl,hB,hcn,hln⟩
    refine⟨_,rfl,?_⟩
    rw[g_nums (s':=⟨w.heap.size,s.b4,s.b5⟩) (fun i hi=>by
     have:i≠2:=fun e=>by rw[e,hd]at hi;cases hi
     unfold vOf;simp only[if_neg this])]
    rw[uo (i:=2) (by omega) rfl rfl]
    have e10:jg d 2 10=d 10:=qK _ (by decide)
    have e11:jg d 2 11=d 11:=qK _ (by decide)
    have e12:jg d 2 12=d 12:=qK _ (by decide)
    have e13:jg d 2 13=d 13:=qK _ (by decide)
    refine⟨⟨w.heap.size,s.b4,s.b5⟩,rfl,hJ.below.trans (hB.mono hJ.below.size),fun _=>⟨hJ.below.size,hln,hcn⟩,?_,?_,?_,?_,?_,?_,?_,?_⟩ <;> simp only[e10,e11,e12,e13]
    ·intro h2;obtain⟨p,q⟩:=hJ.fn h2;refine⟨p,?_⟩;rw[hB.block _ (qw q),q,d12];rfl
    ·intro h2;obtain⟨p,q⟩:=hJ.an h2;exact⟨p,(hB.block _ (qw q)).trans q⟩
    ·exact hJ.o12
    ·exact fun _=>d12
    ·exact hJ.o13
    ·intro _ h2 e;obtain⟨p,q⟩:=hJ.fn h2;have:=qw q;omega
    ·intro _ h2 e;obtain⟨p,q⟩:=hJ.an h2;have:=qw q;omega
    ·exact hJ.n3
  | 3,ho,hd,_=>
    obtain rfl:op3=o:=Option.some.inj ho
    refine zA rfl rfl rfl (YR ((el 3 (by decide)).trans e3)) ?_
    rw[uo (i:=3) (by omega) rfl rfl]
    exact⟨s,rfl,hJ.step (Below.refl _ _) (by omega)⟩
  | 4,ho,hd,hall=>
    obtain rfl:op4=o:=Option.some.inj ho
    have h1:=hall ⟨3,.data⟩ (by simp) rfl
    refine zA rfl rfl rfl (xV (ev 9 3 _ (by omega) rfl h1 rfl) (hc _ hJ.below)) ?_
    rw[uo (i:=4) (by omega) rfl rfl]
    exact⟨s,rfl,hJ.step (Below.refl _ _) (by omega)⟩
  | 5,ho,hd,_=>
    obtain rfl:op5=o:=Option.some.inj ho
    refine zA rfl rfl rfl (run_move ((el 0 (by decide)).trans e0)) ?_
    rw[uo (i:=5) (by omega) rfl rfl]
    exact⟨s,rfl,hJ.step (Below.refl _ _) (by omega)⟩
  | 6,ho,hd,hall=>
    obtain rfl:op6=o:=Option.some.inj ho
    have h1:=hall ⟨5,.data⟩ (by simp) rfl
    refine zA rfl rfl rfl (run_nilCheck (ev 11 5 _ (by omega) rfl h1 rfl)) ?_
    rw[uo (i:=6) (by omega) rfl rfl]
    exact⟨s,rfl,hJ.step (Below.refl _ _) (by omega)⟩
  | 7,ho,hd,hall=>
    obtain rfl:op7=o:=Option.some.inj ho
    have h1:=hall ⟨6,.data⟩ (by simp) rfl
    refine zA rfl rfl rfl (Xu (ev 12 6 _ (by omega) rfl h1 rfl)) ?_
    rw[uo (i:=7) (by omega) rfl rfl]
    exact⟨s,rfl,hJ.step (Below.refl _ _) (by omega)⟩
  | 8,ho,hd,hall=>
    obtain rfl:op8=o:=Option.some.inj ho
    have h1:=hall ⟨7,.data⟩ (by simp) rfl
    refine zA rfl rfl rfl (xV (ev 13 7 _ (by omega) rfl h1 rfl) (hs _ hJ.below)) ?_
    rw[uo (i:=8) (by omega) rfl rfl]
    exact⟨s,rfl,hJ.step (Below.refl _ _) (by omega)⟩
  | 9,ho,hd,hall=>
    obtain rfl:op9=o:=Option.some.inj ho
    have h1:=hall ⟨4,.data⟩ (by simp) rfl
    have h2:=hall ⟨8,.data⟩ (by simp) rfl
    refine Ym rfl rfl rfl (Jr rfl (fun args=>callFunc_equal args w) (ev 10 4 _ (by omega) rfl h1 rfl) (ev 14 8 _ (by omega) rfl h2 rfl)) ?_
    refine(vJ n qf w).mono ?_
    rintro e w' ⟨rfl,hB⟩
    refine⟨_,rfl,?_⟩
    rw[← heb]
    rw[uo (i:=9) (by omega) rfl rfl]
    exact⟨s,rfl,hJ.step hB (by omega)⟩
  | 10,ho,hd,_=>
    obtain rfl:op10=o:=Option.some.inj ho
    have d12:=hJ.o12 hd
    refine zA rfl rfl rfl run_allocF ?_
    rw[g_nums (s':=⟨s.bn,w.heap.size,s.b5⟩) (fun i hi=>by
     have:i≠10:=fun e=>by rw[e,hd]at hi;cases hi
     unfold vOf;simp only[if_neg this])]
    rw[uo (i:=10) (by omega) rfl rfl]
    have hB:Below w.heap.size w (w.alloc (.cells #[.nilFunc] 114)):=(Below.refl _ w).alloc (Nat.le_refl _) _
    have e2:jg d 10 2=d 2:=qK _ (by decide)
    have e11:jg d 10 11=d 11:=qK _ (by decide)
    have e12:jg d 10 12=d 12:=qK _ (by decide)
    have e13:jg d 10 13=d 13:=qK _ (by decide)
    refine⟨⟨s.bn,w.heap.size,s.b5⟩,rfl,hJ.below.trans (hB.mono hJ.below.size),?_,?_,?_,?_,?_,?_,?_,?_,?_⟩ <;> simp only[e2,e11,e12,e13]
    ·intro h2;obtain⟨p,q,r⟩:=hJ.nm h2;exact⟨p,Nat.lt_of_lt_of_le q hB.size,(hB.cell (p:=⟨s.bn,0,none⟩) q).trans r⟩
    ·intro _;refine⟨hJ.below.size,?_⟩;rw[d12];exact qo rfl
    ·intro h2;obtain⟨p,q⟩:=hJ.an h2;exact⟨p,(hB.block _ (qw q)).trans q⟩
    ·intro h2;rw[uF]at h2;cases h2
    ·exact hJ.o12'
    ·exact hJ.o13
    ·intro h2 _ e;obtain⟨p,q,r⟩:=hJ.nm h2;omega
    ·exact hJ.n2
    ·intro _ h2 e;obtain⟨p,q⟩:=hJ.an h2;have:=qw q;omega
  | 11,ho,hd,_=>
    obtain rfl:op11=o:=Option.some.inj ho
    have d13:=hJ.o13 hd
    refine zA rfl rfl rfl run_allocB ?_
    rw[g_nums (s':=⟨s.bn,s.b4,w.heap.size⟩) (fun i hi=>by
     have:i≠11:=fun e=>by rw[e,hd]at hi;cases hi
     unfold vOf;simp only[if_neg this])]
    rw[uo (i:=11) (by omega) rfl rfl]
    have hB:Below w.heap.size w (w.alloc (.cells #[.bool false] 4)):=(Below.refl _ w).alloc (Nat.le_refl _) _
    have e2:jg d 11 2=d 2:=qK _ (by decide)
    have e10:jg d 11 10=d 10:=qK _ (by decide)
    have e12:jg d 11 12=d 12:=qK _ (by decide)
    have e13:jg d 11 13=d 13:=qK _ (by decide)
    refine⟨⟨s.bn,s.b4,w.heap.size⟩,rfl,hJ.below.trans (hB.mono hJ.below.size),?_,?_,?_,?_,?_,?_,?_,?_,?_⟩ <;> simp only[e2,e10,e12,e13]
    ·intro h2;obtain⟨p,q,r⟩:=hJ.nm h2;exact⟨p,Nat.lt_of_lt_of_le q hB.size,(hB.cell (p:=⟨s.bn,0,none⟩) q).trans r⟩
    ·intro h2;obtain⟨p,q⟩:=hJ.fn h2;exact⟨p,(hB.block _ (qw q)).trans q⟩
    ·intro _;refine⟨hJ.below.size,?_⟩;rw[d13];exact qo rfl
    ·exact hJ.o12
    ·exact hJ.o12'
    ·intro h2;rw[uF]at h2;cases h2
    ·exact hJ.n1
    ·intro h2 _ e;obtain⟨p,q,r⟩:=hJ.nm h2;omega
    ·intro h2 _ e;obtain⟨p,q⟩:=hJ.fn h2;have:=qw q;omega
  | 12,ho,hd,hall=>
    obtain rfl:op12=o:=Option.some.inj ho
    have h10:=hall ⟨10,.data⟩ (by simp) rfl
    have h2:=hall ⟨2,.data⟩ (by simp) rfl
    obtain⟨p4,q4⟩:=hJ.fn h10
    refine Yl rfl rfl rfl (run_storeF (ev 4 10 _ (by omega) rfl h10 rfl) (ev 8 2 _ (by omega) rfl h2 rfl) ((qg q4 0).trans rfl) (qE q4 0)) ?_
    rw[g_skip (i:=12) (.inl rfl)]
    have e2:jg d 12 2=d 2:=qK _ (by decide)
    have e10:jg d 12 10=d 10:=qK _ (by decide)
    have e11:jg d 12 11=d 11:=qK _ (by decide)
    have e13:jg d 12 13=d 13:=qK _ (by decide)
    have hsz:(w.setCell ⟨s.b4,0,none⟩ (fnV s.bn)).heap.size=w.heap.size:=by simp
    have hN1:=hJ.n1 h2 h10
    refine⟨s,rfl,hJ.below.setCell (p:=⟨s.b4,0,none⟩) p4 _,?_,?_,?_,?_,?_,?_,?_,?_,?_⟩ <;> simp only[e2,e10,e11,e13,uF]
    ·intro _;obtain⟨p,q,r⟩:=hJ.nm h2
     exact⟨p,by rw[hsz];exact q,(World.cell?_of_block (Below.heap_setCell w ⟨s.b4,0,none⟩ (fnV s.bn) s.bn hN1)).trans r⟩
    ·intro _;exact⟨p4,(qB q4 0 _).trans rfl⟩
    ·intro h;obtain⟨p,q⟩:=hJ.an h;exact⟨p,(Below.heap_setCell w ⟨s.b4,0,none⟩ (fnV s.bn) s.b5 (Ne.symm (hJ.n3 h10 h))).trans q⟩
    ·intro h;rw[h10]at h;cases h
    ·intro h;rw[h2]at h;cases h
    ·exact hJ.o13
    ·exact hJ.n1
    ·exact hJ.n2
    ·exact hJ.n3
  | 13,ho,hd,hall=>
    obtain rfl:op13=o:=Option.some.inj ho
    have h11:=hall ⟨11,.data⟩ (by simp) rfl
    have h9:=hall ⟨9,.data⟩ (by simp) rfl
    obtain⟨p5,q5⟩:=hJ.an h11
    refine Yl rfl rfl rfl (run_storeB (ev 5 11 _ (by omega) rfl h11 rfl) (ev 15 9 _ (by omega) rfl h9 rfl) ((qg q5 0).trans rfl) (qE q5 0)) ?_
    rw[g_skip (i:=13) (.inr rfl)]
    have e2:jg d 13 2=d 2:=qK _ (by decide)
    have e10:jg d 13 10=d 10:=qK _ (by decide)
    have e11:jg d 13 11=d 11:=qK _ (by decide)
    have e12:jg d 13 12=d 12:=qK _ (by decide)
    have hsz:(w.setCell ⟨s.b5,0,none⟩ (.bool eb)).heap.size=w.heap.size:=by simp
    refine⟨s,rfl,hJ.below.setCell (p:=⟨s.b5,0,none⟩) p5 _,?_,?_,?_,?_,?_,?_,?_,?_,?_⟩ <;> simp only[e2,e10,e11,e12,uF]
    ·intro h2;obtain⟨p,q,r⟩:=hJ.nm h2
     exact⟨p,by rw[hsz];exact q,(World.cell?_of_block (Below.heap_setCell w ⟨s.b5,0,none⟩ (.bool eb) s.bn (hJ.n2 h2 h11))).trans r⟩
    ·intro h;obtain⟨p,q⟩:=hJ.fn h;exact⟨p,(Below.heap_setCell w ⟨s.b5,0,none⟩ (.bool eb) s.b4 (hJ.n3 h h11)).trans q⟩
    ·intro _;exact⟨p5,(qB q5 0 _).trans rfl⟩
    ·exact hJ.o12
    ·exact hJ.o12'
    ·intro h;rw[h11]at h;cases h
    ·exact hJ.n1
    ·exact hJ.n2
    ·exact hJ.n3
  | k+14,ho,_,_=>cases ho
 ·rintro d g w ⟨s,rfl,hJ⟩ hall
  rw[fill_end (fun i hi=>hall i hi)]
  obtain⟨p,q,r⟩:=hJ.nm (hall 2 (by decide))
  obtain⟨p4,q4⟩:=hJ.fn (hall 10 (by decide))
  obtain⟨p5,q5⟩:=hJ.an (hall 11 (by decide))
  rw[hall 12 (by decide)]at q4
  rw[hall 13 (by decide)]at q5
  exact fin s w hJ.below ⟨(qg q4 0).trans rfl,r,qw q4,q⟩ ((qg q5 0).trans rfl) (qw q5)
end cl
theorem up.clear_law {x:Rec}{qf:ByteArray}{l:List Rec}(hx:ql x.owner=true)(hn:∀y∈l,ql y.owner=true):(l.filter fun y=>!up.QO (qm x.owner) (qz x.owner qf) x y)=up.Kj qf l x:=by
 unfold up.Kj
 refine List.filter_congr fun y hy=>?_
 have e:yf (qm x.owner) y=qz x.owner y.owner:=by
  unfold yf
  by_cases h:qm y.owner=qm x.owner
  ·rw[decide_eq_true h,(zn.zJ hx (hn y hy)).2 h.symm]
  ·rw[decide_eq_false h]
   cases hq:qz x.owner y.owner
   ·rfl
   ·exact absurd ((zn.zJ hx (hn y hy)).1 hq).symm h
 unfold up.QO
 rw[e]
theorem uclear_any (x:Rec)(hx:ql x.owner=true)(base st:Nat)(qf:ByteArray)(l:List Rec)(hl:l.length≤100000)(hn:∀y∈l,ql y.owner=true)(w:World)(hb:base≤w.heap.size)(hs:zR w base st qf l):
 Calls Tryz.prog 42 #[.pointer (some ⟨st,0,none⟩),zB x] w fun e w'=>xI w base st qf (up.Kj qf l x) e w':=by
 have hmf:∀(fn:Fn) (first cap:Array Value) (w:World),(Instr.makeFunc fn first cap).run Tryz.prog w= .ok (.func fn first cap) w:=fun _ _ _ _=>rfl
 obtain⟨w1,hw1⟩:∃W,W=w.alloc (.cells (recC x).toArray 51):=⟨_,rfl⟩
 obtain⟨hB1,hs1,hxa⟩:=qM w w1 x hw1
 obtain⟨bx,hbx⟩:∃b,b=w.heap.size:=⟨_,rfl⟩
 rw[← hbx]at hxa
 have HW1:=Lib.hid hw1;have HBX:=Lib.hid hbx;have HXX:=Lib.hid hxa;have LX:=Lib.hid (show bx<w1.heap.size by omega);have HB1:=Lib.hid (hB1.mono hb)
 have HST:=Lib.hid (hs.below hB1);have HN:=Lib.hid hn;have HBL:=Lib.hid (show base≤w1.heap.size by omega)
 have zb:=Lib.hid (up.clear_law (qf:=qf) hx hn)
 have HAP:=Lib.hid HST.out.apex_
 clear hw1 hB1 hs1 hbx hxa hx hn hb hs
 go_enter Tryz.func42,Tryz.ntmps42
 go_upto_region 1 with fail
 rw[← HW1.out,← HBX.out]
 refine cl.clear_region (bx:=bx) (st:=st) (n:=x.owner) (qf:=qf) rfl rfl rfl (Nat.le_of_ble_eq_true rfl) (fun X hX=>(hX.cell (p:=⟨bx,0,none⟩) LX.out).trans HXX.out.1) (fun X hX=>(hX.cell (p:=⟨st,0,none⟩) HST.out.lt).trans HAP.out) ?_
 intro s X hX Y9 h5 l5
 obtain⟨eb,heb⟩:∃eb,eb=qz x.owner qf:=⟨_,rfl⟩
 rw[← heb]at h5 ⊢
 have HEB:=Lib.hid heb
 have HSTX:=Lib.hid (HST.out.below hX)
 have HBX1:=Lib.hid (HB1.out.trans (hX.mono HBL.out))
 have yH:=Lib.hid (Nat.le_trans HBL.out hX.size)
 have HX3:=Lib.hid (HXX.out.keep (hX.block bx LX.out));have LX3:=Lib.hid (Nat.lt_of_lt_of_le LX.out hX.size)
 have HHERE:=Lib.hid Y9;have H5:=Lib.hid h5;have L5:=Lib.hid l5
 clear heb hX Y9 h5 l5
 unfold cl.endA
 simp only[Act.put,List.setIfInBounds_toArray,List.set_cons_zero,List.set_cons_succ]
 go_wp2_with fail
 refine(xD 93 #[.pointer (some ⟨s.b5,0,none⟩),.pointer (some ⟨s.b4,0,none⟩),.pointer (some ⟨bx,0,none⟩)] VY (fun y=>up.QO (qm x.owner) eb x y) base st qf l (by omega) X HSTX.out
  (fun r _ Y hY=>clear1_any x r eb s.b5 s.b4 bx s.bn (qm x.owner) Y ((hY.cell (p:=⟨s.b5,0,none⟩) L5.out).trans H5.out) (Nat.lt_of_lt_of_le L5.out hY.size) (HHERE.out.below hY) (HX3.out.keep (hY.block bx LX3.out)) (Nat.lt_of_lt_of_le LX3.out hY.size))).mono ?_
 rintro e w6 ⟨rfl,⟨v6,Qi,jm⟩,hg6⟩
 have hflt:(l.filter fun y=>!up.QO (qm x.owner) eb x y)=up.Kj qf l x:=by rw[HEB.out];exact zb.out
 rw[hflt]at jm
 have HST6:=Lib.hid (show zR w6 base st qf (up.Kj qf l x) from⟨v6,Qi,HSTX.out.kI,yj jm yH.out⟩)
 have HB6:=Lib.hid (HBX1.out.trans (Zb hg6 yH.out HSTX.out.kI))
 clear Qi jm hg6 hflt
 go_wp2_with fail
 go_end0
 exact⟨rfl,HST6.out,HB6.out⟩
theorem chgOk_clear {x:Rec}(h2:x.cls=255)(hx:ql x.owner=true):VJ x:=by
 have h1:x.cls≠1:=by omega
 intro base st qf l w hl hin hb hs
 have e:up.zO qf l x=up.Kj qf l x:=by unfold up.zO;rw[if_neg h1,if_pos h2]
 rw[if_neg h1,if_pos h2,e]
 exact uclear_any x hx base st qf l hl (fun y hy=>(hin y hy).1) w hb hs
end Go.Proofs.YtdjjemajfphjaaaGreat
