import Derived.Test.YtdjjemajfphjaaaGreatQZoneC
import Derived.Test.YtdjjemajfphjaaaGreatQRzE
import Derived.Test.YtdjjemajfphjaaaGreatQUpdG
import Derived.Deep.CutBlock
set_option maxRecDepth 100000
set_option maxHeartbeats 8000000
namespace Go.Proofs.YtdjjemajfphjaaaGreat
open Go.RowKit Go.Shelf Go.WideMaps nm od
structure Qn where
 name:ByteArray
 typ:Int
 cls:Int
@[reducible] def qnC (q:Qn):List Value:=[.string q.name,.int .i64 q.typ,.int .i64 q.cls]
def QnAt (w:World)(b off:Nat)(q:Qn):Prop:=w.cell? ⟨b,off,none⟩=some (.string q.name)∧w.cell? ⟨b,off+1,none⟩=some (.int .i64 q.typ)∧w.cell? ⟨b,off+2,none⟩=some (.int .i64 q.cls)
def kJ (w:World)(v:Value)(l:List Qn):Prop:=
 ∃a cap,v= .slice a l.length cap∧l.length≤cap∧∀k (hk:k<l.length),∃b off,a=some ⟨b,off,none⟩∧b<w.heap.size∧QnAt w b (off+k*3) l[k]
theorem QnAt.keep {w w':World}{b off:Nat}{q:Qn}(h:QnAt w b off q)(hk:w'.heap[b]? =w.heap[b]?):QnAt w' b off q:=by
 have e:∀i,w'.cell? ⟨b,i,none⟩=w.cell? ⟨b,i,none⟩:=fun i=>World.cell?_of_block (w:=w) (a:=⟨b,i,none⟩) hk
 exact⟨(e _).trans h.1,(e _).trans h.2.1,(e _).trans h.2.2⟩
theorem kJ.below {w w':World}{v:Value}{l:List Qn}(h:kJ w v l)(hb:Below w.heap.size w w'):kJ w' v l:=by
 obtain⟨a,cap,hv,hc,hr⟩:=h
 refine⟨a,cap,hv,hc,fun k hk=>?_⟩
 obtain⟨b,off,ha,hbl,hra⟩:=hr k hk
 exact⟨b,off,ha,Nat.lt_of_lt_of_le hbl hb.size,hra.keep (hb.block b hbl)⟩
theorem qn_new (w w1:World)(q:Qn)(h:w1=w.alloc (.cells (qnC q).toArray 63)):Below w.heap.size w w1∧w1.heap.size=w.heap.size+1∧QnAt w1 w.heap.size 0 q:=by
 subst h
 refine⟨(Below.refl _ w).alloc (Nat.le_refl _) _,by simp,?_,?_,?_⟩ <;> (rw[qg (qo rfl)];rfl)
end Go.Proofs.YtdjjemajfphjaaaGreat
namespace Go.Proofs.YtdjjemajfphjaaaGreat
open Go.RowKit Go.Shelf nm od
deriving instance DecidableEq for Qn
deriving instance Inhabited for Qn
structure Hd where
 id:Int
 UU:Bool
 op:Int
 aa:Bool
 tc:Bool
 rd:Bool
 ra:Bool
 ad:Bool
 cd:Bool
 vE:Int
 deriving DecidableEq,Inhabited
@[reducible] def Yh (h:Hd) (q a u d:Value):List Value:=[.int .i64 h.id,.bool h.UU,.int .i64 h.op,.bool h.aa,.bool h.tc,.bool h.rd,.bool h.ra,.bool h.ad,.bool h.cd,.int .i64 h.vE,q,a,u,d]
@[reducible] def Yg (h:Hd) (q a u d:Value):Value:=.agg #[.int .i64 h.id,.bool h.UU,.int .i64 h.op,.bool h.aa,.bool h.tc,.bool h.rd,.bool h.ra,.bool h.ad,.bool h.cd,.int .i64 h.vE,q,a,u,d]
def yn (w:World)(b:Nat)(h:Hd)(q a u d:Value):Prop:=w.heap[b]? =some (.cells (Yh h q a u d).toArray 25 (0,0))
theorem yn.lt {w:World}{b:Nat}{h:Hd}{q a u d:Value}(hb:yn w b h q a u d):b<w.heap.size:=qw hb
theorem yn.below {w w':World}{b:Nat}{h:Hd}{q a u d:Value}(hb:yn w b h q a u d)(hB:Below w.heap.size w w'):yn w' b h q a u d:=(hB.block b hb.lt).trans hb
theorem uJ {w w1:World}{h:Hd}{q a u d:Value}(e:w1=w.alloc (.cells (Yh h q a u d).toArray 25)):Below w.heap.size w w1∧w1.heap.size=w.heap.size+1∧yn w1 w.heap.size h q a u d:=by
 subst e
 exact⟨(Below.refl _ w).alloc (Nat.le_refl _) _,by simp,qo rfl⟩
theorem yn.facts {w:World}{b:Nat}{h:Hd}{q a u d:Value}(hb:yn w b h q a u d):
 w.cell? ⟨b,0,none⟩=some (.int .i64 h.id)∧w.cell? ⟨b,1,none⟩=some (.bool h.UU)∧w.cell? ⟨b,2,none⟩=some (.int .i64 h.op)∧w.cell? ⟨b,3,none⟩=some (.bool h.aa)∧w.cell? ⟨b,4,none⟩=some (.bool h.tc)∧
 w.cell? ⟨b,5,none⟩=some (.bool h.rd)∧w.cell? ⟨b,6,none⟩=some (.bool h.ra)∧w.cell? ⟨b,7,none⟩=some (.bool h.ad)∧w.cell? ⟨b,8,none⟩=some (.bool h.cd)∧w.cell? ⟨b,9,none⟩=some (.int .i64 h.vE)∧
 w.cell? ⟨b,10,none⟩=some q∧w.cell? ⟨b,11,none⟩=some a∧w.cell? ⟨b,12,none⟩=some u∧w.cell? ⟨b,13,none⟩=some d:=by
 unfold yn at hb
 refine⟨?_,?_,?_,?_,?_,?_,?_,?_,?_,?_,?_,?_,?_,?_⟩ <;> (rw[qg hb];rfl)
theorem yn.free {w:World}{b:Nat}{h:Hd}{q a u d:Value}(hb:yn w b h q a u d)(i:Nat):w.frozen? ⟨b,i,none⟩=false:=qE hb i
theorem head_same (h:Hd)(q a u d q' a' u' d':Value)(w:World):
 Calls Tryz.prog 38 #[Yg h q a u d,Yg h q' a' u' d'] w fun e w'=>e= .returned (.bool true)∧Below w.heap.size w w':=by
 obtain⟨i,b1,o,b3,b4,b5,b6,b7,b8,c⟩:=h
 have e0:(i == i)=true:=by rw[beq_iff_eq]
 have e1:(b1 == b1)=true:=by rw[beq_iff_eq]
 have e2:(o == o)=true:=by rw[beq_iff_eq]
 have e3:(b3 == b3)=true:=by rw[beq_iff_eq]
 have e4:(b4 == b4)=true:=by rw[beq_iff_eq]
 have e5:(b5 == b5)=true:=by rw[beq_iff_eq]
 have e6:(b6 == b6)=true:=by rw[beq_iff_eq]
 have e7:(b7 == b7)=true:=by rw[beq_iff_eq]
 have e8:(b8 == b8)=true:=by rw[beq_iff_eq]
 have e9:(c == c)=true:=by rw[beq_iff_eq]
 have HB:=Lib.hid (((Below.refl _ w).alloc (Nat.le_refl _) (.cells (Yh ⟨i,b1,o,b3,b4,b5,b6,b7,b8,c⟩ q a u d).toArray 25)).alloc (by simp) (.cells (Yh ⟨i,b1,o,b3,b4,b5,b6,b7,b8,c⟩ q' a' u' d').toArray 25))
 go_enter Tryz.func38,Tryz.ntmps38
 go_wp2_with fail
 go_ret
 exact⟨rfl,HB.out⟩
theorem XD (x:List Qn)(hx:x.length≤1000000000000)(v u:Value)(w:World)(hv:kJ w v x)(hu:kJ w u x):
 Calls Tryz.prog 39 #[v,u] w fun e w'=>e= .returned (.bool true)∧Below w.heap.size w w':=by
 obtain⟨a,cap,rfl,-⟩:=id hv
 obtain⟨a2,cap2,rfl,-⟩:=id hu
 have HV:=Lib.hid hv;have HU:=Lib.hid hu
 clear hv hu
 go_enter Tryz.func39,Tryz.ntmps39
 go_wp2_with fail
 go_loopw [13,5] (fun kv _ wr=>∃k:Nat,k≤x.length∧kv= .int .i64 (k:Int)∧Below w.heap.size w wr) (fun kv _ _=>x.length-(intOf kv).toNat)
 case atStart=>exact⟨0,Nat.zero_le _,rfl,Below.refl _ _⟩
 case round=>
  obtain⟨k,hk,rfl,hB⟩:=hrel
  have HB:=Lib.hid hB
  by_cases hkm:k<x.length
  ·obtain⟨a',cap',hv,_,hr⟩:=kJ.below HV.out hB
   simp only[Value.slice.injEq]at hv
   obtain⟨rfl,_,rfl⟩:=hv
   obtain⟨b,off,rfl,hbl,c0,c1,c2⟩:=hr k hkm
   obtain⟨a',cap',hv,_,hr2⟩:=kJ.below HU.out hB
   simp only[Value.slice.injEq]at hv
   obtain⟨rfl,_,rfl⟩:=hv
   obtain⟨b2,off2,rfl,hbl2,d0,d1,d2⟩:=hr2 k hkm
   clear hr hr2 hB
   go_upto_region 6 with fail
   refine qj (by kernel_rfl) (by kernel_rfl) ?_
   have e0:=qh c0;have e1:=qh c1;have e2:=qh c2
   have f0:=qh d0;have f1:=qh d1;have f2:=qh d2
   repeat (with_reducible refine wpQuiet_step (fun K hK=>?_);go_simp;first | (with_reducible refine hK _ ?_;clear hK K))
   refine wpQuiet_nil ?_
   intro W hW
   have hBW:Below wr.heap.size wr W:=by obtain⟨p,rfl⟩:=hW;exact qp _ p
   have HBW:=Lib.hid (HB.out.trans (hBW.mono HB.out.size))
   clear hW hBW e0 e1 e2 f0 f1 f2 c0 c1 c2 d0 d1 d2
   go_wp2_with fail
   go_roundw
   case rel=>exact⟨k+1,by omega,by go_num,HBW.out⟩
   case measure=>simp[intOf];omega
  ·obtain rfl:k=x.length:=by omega
   clear hkm hB
   go_wp2_with fail
   go_ret
   exact⟨rfl,HB.out⟩
end Go.Proofs.YtdjjemajfphjaaaGreat
namespace Go.Proofs.YtdjjemajfphjaaaGreat
open Go.RowKit Go.Shelf nm od
namespace wi
def qnB (q:Qn):Bool:=ql q.name && inB q.typ 65535 && inB q.cls 65535
def hdB (h:Hd):Bool:=inB h.id 65535 && inB h.op 15 && inB h.vE 15
def XR (qs:List Qn)(an au ad:List Rec):Bool:=decide (qs.length≤65535∧an.length≤65535∧au.length≤65535∧ad.length≤65535)
def jI (h:Hd)(qs:List Qn)(an au ad:List Rec):Bool:=hdB h && XR qs an au ad && qs.all qnB && an.all qR && au.all qR && ad.all qR
def okI (b:Bool):Int:=if b=true then 0 else 8
theorem Jg {α:Type}(f:α→Bool){l:List α}{k:Nat}(h:k<l.length):(l.take (k+1)).all f=((l.take k).all f && f l[k]):=by
 rw[List.take_succ_eq_append_getElem h,List.all_append]
 simp
theorem all_bad {α:Type}(f:α→Bool){l:List α}{k:Nat}(h:k<l.length)(hf:f l[k]=false):l.all f=false:=by
 rw[List.all_eq_false]
 exact⟨l[k],List.getElem_mem h,by rw[hf];simp⟩
theorem Uh {α:Type}(f:α→Bool){l:List α}{k:Nat}{x:α}(h:k<l.length)(ht:(l.take k).all f=true)(hx:x=l[k])(hf:f x=true):(l.take (k+1)).all f=true:=by
 subst hx
 rw[Jg f h,ht,hf];rfl
theorem Z0 {α:Type}(f:α→Bool){l:List α}{k:Nat}{x:α}(h:k<l.length)(hx:x=l[k])(hf:f x=false):l.all f=false:=by
 subst hx
 exact all_bad f h hf
end wi
theorem run_max4 (ts:Array TypeId)(t:TypeId)(a b c d:Int)(w:World):∃M,(Builtin.max_ ts t #[.int .i64 a,.int .i64 b,.int .i64 c,.int .i64 d]).run Tryz.prog w= .ok (.int .i64 M) w∧(65535<M↔65535<a∨65535<b∨65535<c∨65535<d):=by
 obtain⟨m2,hm2⟩:∃m,m=if b > a then b else a:=⟨_,rfl⟩
 obtain⟨m3,hm3⟩:∃m,m=if c > m2 then c else m2:=⟨_,rfl⟩
 refine⟨if d > m3 then d else m3,?_,?_⟩
 ·rw[hm3,hm2]
  simp[Builtin.max_,Builtin.max2]
 ·rw[hm3,hm2]
  repeat' split
  all_goals omega
theorem wcheck_any (h:Hd)(qs:List Qn)(an au ad:List Rec)(hq:qs.length≤1000000000000)(ha:an.length≤1000000000000)(hu:au.length≤1000000000000)(hd:ad.length≤1000000000000)(q a u d:Value)(w:World)
 (rq:kJ w q qs) (ra:qy w a an) (ru:qy w u au) (rd:qy w d ad):
 Calls Tryz.prog 27 #[Yg h q a u d] w fun e w'=>e= .returned (.int .i64 (wi.okI (wi.jI h qs an au ad)))∧Below w.heap.size w w':=by
 obtain⟨w1,hw1⟩:∃X,X=w.alloc (.cells (Yh h q a u d).toArray 25):=⟨_,rfl⟩
 obtain⟨hB1,hs1,hm1⟩:=uJ hw1
 have HQ:=Lib.hid rq;have HA:=Lib.hid ra;have HU:=Lib.hid ru;have HD:=Lib.hid rd
 obtain⟨qa,qc,rfl,-⟩:=id rq
 obtain⟨aa,ac,rfl,-⟩:=id ra
 obtain⟨ua,uc,rfl,-⟩:=id ru
 obtain⟨da,dc,rfl,-⟩:=id rd
 obtain⟨x0,x1,x2,x3,x4,x5,x6,x7,x8,x9,x10,x11,x12,x13⟩:=hm1.facts
 have HW1:=Lib.hid hw1;have HB1:=Lib.hid hB1;have HM1:=Lib.hid hm1
 clear hw1 hB1 hm1
 clear hs1 rq ra ru rd
 go_enter Tryz.func27,Tryz.ntmps27
 go_upto_region 1 with fail
 rw[← HW1.out]
 go_wp2_with fail
 refine(Y5 _ _ _).mono ?_
 rintro e w2 ⟨rfl,rfl⟩
 obtain⟨b2,hb2⟩:∃b,b=wi.inB h.id 65535:=⟨_,rfl⟩
 rw[← hb2]
 cases b2
 ·have hr:wi.okI (wi.jI h qs an au ad)=8:=by simp[wi.okI,wi.jI,wi.hdB,← hb2]
  clear hb2
  have HR:=Lib.hid hr
  clear hr
  go_wp2_with fail
  go_ret
  exact⟨qH HR.out.symm,HB1.out⟩
 have HI2:=Lib.hid hb2.symm
 clear hb2
 go_wp2_with fail
 refine(Y5 _ _ _).mono ?_
 rintro e w3 ⟨rfl,rfl⟩
 obtain⟨b3,hb3⟩:∃b,b=wi.inB h.op 15:=⟨_,rfl⟩
 rw[← hb3]
 cases b3
 ·have hr:wi.okI (wi.jI h qs an au ad)=8:=by simp[wi.okI,wi.jI,wi.hdB,← hb3]
  clear hb3
  have HR:=Lib.hid hr
  clear hr
  go_wp2_with fail
  go_ret
  exact⟨qH HR.out.symm,HB1.out⟩
 have HI3:=Lib.hid hb3.symm
 clear hb3
 go_wp2_with fail
 refine(Y5 _ _ _).mono ?_
 rintro e w4 ⟨rfl,rfl⟩
 obtain⟨b4,hb4⟩:∃b,b=wi.inB h.vE 15:=⟨_,rfl⟩
 rw[← hb4]
 cases b4
 ·have hr:wi.okI (wi.jI h qs an au ad)=8:=by simp[wi.okI,wi.jI,wi.hdB,← hb4]
  clear hb4
  have HR:=Lib.hid hr
  clear hr
  go_wp2_with fail
  go_ret
  exact⟨qH HR.out.symm,HB1.out⟩
 have HI4:=Lib.hid hb4.symm
 clear hb4
 obtain⟨M,hmax,hM⟩:=run_max4 #[3,3,3,3] 3 (qs.length:Int) (an.length:Int) (au.length:Int) (ad.length:Int) w1
 by_cases hlen:65535<M
 ·have d1:decide (65535<M)=true:=decide_eq_true hlen
  have hr:wi.okI (wi.jI h qs an au ad)=8:=by
   have h1:wi.XR qs an au ad=false:=decide_eq_false fun h=>by omega
   simp[wi.okI,wi.jI,h1]
  clear hM hlen
  have HR:=Lib.hid hr
  clear hr
  go_wp2_with fail
  go_ret
  exact⟨qH HR.out.symm,HB1.out⟩
 have d1:decide (65535<M)=false:=decide_eq_false hlen
 have HLEN:=Lib.hid (show wi.XR qs an au ad=true from decide_eq_true (by omega))
 clear hM hlen
 go_wp2_with fail
 go_loopw [44] (fun kv wr=>∃k:Nat,k≤qs.length∧kv= .int .i64 (k:Int)∧Hid ((qs.take k).all wi.qnB=true∧Below w1.heap.size w1 wr)) (fun kv _=>qs.length-(intOf kv).toNat)
 case atStart=>exact⟨0,Nat.zero_le _,rfl,Lib.hid ⟨rfl,Below.refl _ _⟩⟩
 case round=>
  obtain⟨k,hk,rfl,HR⟩:=hrel
  obtain⟨w3,hw3⟩:∃X:World,X=wr:=⟨_,rfl⟩
  subst hw3
  have HB3:=Lib.hid (HB1.out.trans (HR.out.2.mono HB1.out.size))
  by_cases hlt:k<qs.length
  ·have hki:(k:Int)<(qs.length:Int):=by omega
   obtain⟨_,_,hv,_,hr0⟩:=kJ.below HQ.out HB3.out
   simp only[Value.slice.injEq,true_and]at hv
   obtain⟨rfl,rfl⟩:=hv
   obtain⟨bb,off,rfl,hbl,c0,c1,c2⟩:=hr0 k hlt
   obtain⟨x,hx⟩:∃x,x=qs[k]:=⟨_,rfl⟩
   rw[← hx]at c0 c1 c2
   obtain⟨wa,hwa⟩:∃W,W=w3.alloc (.cells (qnC x).toArray 63):=⟨_,rfl⟩
   obtain⟨hBa,hsa,hxa⟩:=qn_new w3 wa x hwa
   obtain⟨bx,hbx⟩:∃b,b=w3.heap.size:=⟨_,rfl⟩
   rw[← hbx]at hxa
   have zU:bx<wa.heap.size:=by omega
   obtain⟨y0,y1,y2⟩:=id hxa
   simp only[Nat.zero_add]at y1 y2
   have HWA:=Lib.hid hwa;have HX:=Lib.hid hx;have HLT:=Lib.hid hlt;have HXA:=Lib.hid hxa;have yH:=Lib.hid zU;have HBX:=Lib.hid hbx
   have HB4:=Lib.hid (HB3.out.trans (hBa.mono HB3.out.size))
   have HC4:=Lib.hid (HR.out.2.trans (hBa.mono HR.out.2.size))
   clear hwa hx hBa hsa hr0 hbl hxa zU hbx
   go_upto_region 6 with fail
   rw[← HWA.out,← HBX.out]
   clear c0 c1 c2
   go_wp2_with fail
   refine(zz _ _).mono ?_
   rintro e w5 ⟨rfl,hB5⟩
   obtain⟨z0,z1,z2⟩:=HXA.out.keep (hB5.block bx yH.out)
   simp only[Nat.zero_add]at z1 z2
   have HB5:=Lib.hid (HB4.out.trans (hB5.mono HB4.out.size))
   have HC5:=Lib.hid (HC4.out.trans (hB5.mono HC4.out.size))
   clear hB5 y0 y1 y2
   cases hc:ql x.name
   ·have hr:wi.okI (wi.jI h qs an au ad)=8:=by
     have h1:=wi.Z0 wi.qnB HLT.out HX.out (by simp[wi.qnB,hc])
     simp[wi.okI,wi.jI,h1]
    rw[Yx]
    clear hc
    have HR:=Lib.hid hr
    clear hr
    go_wp2_with fail
    go_ret
    exact⟨qH HR.out.symm,HB5.out⟩
   ·rw[vQ]
    have HC:=Lib.hid hc
    clear hc
    go_wp2_with fail
    refine(Y5 _ _ _).mono ?_
    rintro e w6 ⟨rfl,rfl⟩
    obtain⟨b6,hb6⟩:∃b,b=wi.inB x.typ 65535:=⟨_,rfl⟩
    rw[← hb6]
    cases b6
    ·have hr:wi.okI (wi.jI h qs an au ad)=8:=by
      have h1:=wi.Z0 wi.qnB HLT.out HX.out (by simp[wi.qnB,← hb6])
      simp[wi.okI,wi.jI,h1]
     clear hb6
     have HR:=Lib.hid hr
     clear hr
     go_wp2_with fail
     go_ret
     exact⟨qH HR.out.symm,HB5.out⟩
    have HI6:=Lib.hid hb6.symm
    clear hb6
    go_wp2_with fail
    refine(Y5 _ _ _).mono ?_
    rintro e w7 ⟨rfl,rfl⟩
    obtain⟨b7,hb7⟩:∃b,b=wi.inB x.cls 65535:=⟨_,rfl⟩
    rw[← hb7]
    cases b7
    ·have hr:wi.okI (wi.jI h qs an au ad)=8:=by
      have h1:=wi.Z0 wi.qnB HLT.out HX.out (by simp[wi.qnB,← hb7])
      simp[wi.okI,wi.jI,h1]
     clear hb7
     have HR:=Lib.hid hr
     clear hr
     go_wp2_with fail
     go_ret
     exact⟨qH HR.out.symm,HB5.out⟩
    have HI7:=Lib.hid hb7.symm
    clear hb7
    have HQB:=Lib.hid (wi.Uh wi.qnB HLT.out HR.out.1 HX.out (by simp[wi.qnB,HC.out,HI6.out,HI7.out]))
    go_wp2_with fail
    go_roundw
    case rel=>exact⟨k+1,by omega,by go_num,Lib.hid ⟨HQB.out,HC5.out⟩⟩
    case measure=>simp[intOf];omega
  ·obtain rfl:k=qs.length:=by omega
   have HQA:=Lib.hid (show qs.all wi.qnB=true by have:=HR.out.1;rwa [List.take_length]at this)
   obtain⟨y0,y1,y2,y3,y4,y5,y6,y7,y8,y9,y10,y11,y12,y13⟩:=(HM1.out.below HR.out.2).facts
   clear hlt x0 x1 x2 x3 x4 x5 x6 x7 x8 x9 x10 x11 x12 x13
   go_wp2_with fail
   clear y0 y1 y2 y3 y4 y5 y6 y7 y8 y9 y10 y11 y12 y13
   go_loopw [72] (fun jv wr=>∃j:Nat,j≤3∧jv= .int .i64 (j:Int)∧Hid ((1≤j→an.all wi.qR=true)∧(2≤j→au.all wi.qR=true)∧(3≤j→ad.all wi.qR=true)∧Below w.heap.size w wr)) (fun jv _=>3-(intOf jv).toNat)
   case atStart=>exact⟨0,by omega,rfl,Lib.hid ⟨fun h=>by omega,fun h=>by omega,fun h=>by omega,HB3.out⟩⟩
   case round=>
    obtain⟨j,hj,rfl,HO⟩:=hrel
    obtain⟨wo,hwo⟩:∃X:World,X=wr:=⟨_,rfl⟩
    subst hwo
    match j,hj with
    | 0,_=>
      have HBo:=Lib.hid HO.out.2.2.2
      have hix:∀W:World,(Instr.index 113 (.agg #[.slice aa an.length ac,.slice ua au.length uc,.slice da ad.length dc]) (.int .i64 0)).run Tryz.prog W= .ok (.slice aa an.length ac) W:=fun W=>by kernel_rfl
      go_wp2_with fail
      go_loopw [77] (fun kv wr=>∃k:Nat,k≤an.length∧kv= .int .i64 (k:Int)∧Hid ((an.take k).all wi.qR=true∧Below w.heap.size w wr)) (fun kv _=>an.length-(intOf kv).toNat)
      case atStart=>exact⟨0,Nat.zero_le _,rfl,Lib.hid ⟨rfl,HBo.out⟩⟩
      case round=>
       obtain⟨k,hk,rfl,HR⟩:=hrel
       obtain⟨w3,hw3⟩:∃X:World,X=wr:=⟨_,rfl⟩
       subst hw3
       by_cases hlt:k<an.length
       ·have hki:(k:Int)<(an.length:Int):=by omega
        obtain⟨_,_,hv,_,hr0⟩:=HA.out.below HR.out.2
        simp only[Value.slice.injEq,true_and]at hv
        obtain⟨rfl,rfl⟩:=hv
        obtain⟨bb,off,rfl,hbl,c0,c1,c2,c3,c4⟩:=hr0 k hlt
        obtain⟨x,hx⟩:∃x,x=an[k]:=⟨_,rfl⟩
        rw[← hx]at c0 c1 c2 c3 c4
        obtain⟨wa,hwa⟩:∃W,W=w3.alloc (.cells (recC x).toArray 51):=⟨_,rfl⟩
        obtain⟨hBa,hsa,hxa⟩:=qM w3 wa x hwa
        obtain⟨x0,x1,x2,x3,x4⟩:=hxa
        have HWA:=Lib.hid hwa;have HX:=Lib.hid hx;have HLT:=Lib.hid hlt
        have HB4:=Lib.hid (HR.out.2.trans (hBa.mono HR.out.2.size))
        clear hwa hx hBa hsa hr0 hbl
        go_upto_region 15 with fail
        rw[← HWA.out]
        clear c0 c1 c2 c3 c4
        go_wp2_with fail
        refine(JV x _).mono ?_
        rintro e w5 ⟨rfl,hB5⟩
        have HB5:=Lib.hid (HB4.out.trans (hB5.mono HB4.out.size))
        clear hB5 x0 x1 x2 x3 x4
        obtain⟨rb,hrb⟩:∃rb,rb=wi.qR x:=⟨_,rfl⟩
        rw[← hrb]
        have HRB:=Lib.hid hrb
        clear hrb
        cases rb
        ·have hr:wi.okI (wi.jI h qs an au ad)=8:=by
          have h1:=wi.Z0 wi.qR HLT.out HX.out HRB.out.symm
          simp[wi.okI,wi.jI,h1]
         have HR:=Lib.hid hr
         clear hr
         go_wp2_with fail
         go_ret
         exact⟨qH HR.out.symm,HB5.out⟩
        ·go_wp2_with fail
         go_roundw
         case rel=>
          repeat apply Exists.intro
          refine And.intro ?_ ?_
          rotate_left
          ·repeat (first | exact rfl | refine And.intro rfl ?_)
          exact⟨k+1,by omega,by go_num,Lib.hid ⟨wi.Uh wi.qR HLT.out HR.out.1 HX.out HRB.out.symm,HB5.out⟩⟩
         case measure=>simp[intOf];omega
       ·obtain rfl:k=an.length:=by omega
        have HAN:=Lib.hid (show an.all wi.qR=true by have:=HR.out.1;rwa [List.take_length]at this)
        have HBe:=Lib.hid HR.out.2
        clear hlt
        go_wp2_with fail
        go_roundw
        case rel=>exact⟨1,by omega,rfl,Lib.hid ⟨fun _=>HAN.out,fun h=>by omega,fun h=>by omega,HBe.out⟩⟩
        case measure=>simp[intOf]
    | 1,_=>
      have HBo:=Lib.hid HO.out.2.2.2
      have hix:∀W:World,(Instr.index 113 (.agg #[.slice aa an.length ac,.slice ua au.length uc,.slice da ad.length dc]) (.int .i64 1)).run Tryz.prog W= .ok (.slice ua au.length uc) W:=fun W=>by kernel_rfl
      have H1:=Lib.hid (HO.out.1 (by omega))
      go_wp2_with fail
      go_loopw [77] (fun kv wr=>∃k:Nat,k≤au.length∧kv= .int .i64 (k:Int)∧Hid ((au.take k).all wi.qR=true∧Below w.heap.size w wr)) (fun kv _=>au.length-(intOf kv).toNat)
      case atStart=>exact⟨0,Nat.zero_le _,rfl,Lib.hid ⟨rfl,HBo.out⟩⟩
      case round=>
       obtain⟨k,hk,rfl,HR⟩:=hrel
       obtain⟨w3,hw3⟩:∃X:World,X=wr:=⟨_,rfl⟩
       subst hw3
       by_cases hlt:k<au.length
       ·have hki:(k:Int)<(au.length:Int):=by omega
        obtain⟨_,_,hv,_,hr0⟩:=HU.out.below HR.out.2
        simp only[Value.slice.injEq,true_and]at hv
        obtain⟨rfl,rfl⟩:=hv
        obtain⟨bb,off,rfl,hbl,c0,c1,c2,c3,c4⟩:=hr0 k hlt
        obtain⟨x,hx⟩:∃x,x=au[k]:=⟨_,rfl⟩
        rw[← hx]at c0 c1 c2 c3 c4
        obtain⟨wa,hwa⟩:∃W,W=w3.alloc (.cells (recC x).toArray 51):=⟨_,rfl⟩
        obtain⟨hBa,hsa,hxa⟩:=qM w3 wa x hwa
        obtain⟨x0,x1,x2,x3,x4⟩:=hxa
        have HWA:=Lib.hid hwa;have HX:=Lib.hid hx;have HLT:=Lib.hid hlt
        have HB4:=Lib.hid (HR.out.2.trans (hBa.mono HR.out.2.size))
        clear hwa hx hBa hsa hr0 hbl
        go_upto_region 15 with fail
        rw[← HWA.out]
        clear c0 c1 c2 c3 c4
        go_wp2_with fail
        refine(JV x _).mono ?_
        rintro e w5 ⟨rfl,hB5⟩
        have HB5:=Lib.hid (HB4.out.trans (hB5.mono HB4.out.size))
        clear hB5 x0 x1 x2 x3 x4
        obtain⟨rb,hrb⟩:∃rb,rb=wi.qR x:=⟨_,rfl⟩
        rw[← hrb]
        have HRB:=Lib.hid hrb
        clear hrb
        cases rb
        ·have hr:wi.okI (wi.jI h qs an au ad)=8:=by
          have h1:=wi.Z0 wi.qR HLT.out HX.out HRB.out.symm
          simp[wi.okI,wi.jI,h1]
         have HR:=Lib.hid hr
         clear hr
         go_wp2_with fail
         go_ret
         exact⟨qH HR.out.symm,HB5.out⟩
        ·go_wp2_with fail
         go_roundw
         case rel=>
          repeat apply Exists.intro
          refine And.intro ?_ ?_
          rotate_left
          ·repeat (first | exact rfl | refine And.intro rfl ?_)
          exact⟨k+1,by omega,by go_num,Lib.hid ⟨wi.Uh wi.qR HLT.out HR.out.1 HX.out HRB.out.symm,HB5.out⟩⟩
         case measure=>simp[intOf];omega
       ·obtain rfl:k=au.length:=by omega
        have HAU:=Lib.hid (show au.all wi.qR=true by have:=HR.out.1;rwa [List.take_length]at this)
        have HBe:=Lib.hid HR.out.2
        clear hlt
        go_wp2_with fail
        go_roundw
        case rel=>exact⟨2,by omega,rfl,Lib.hid ⟨fun _=>H1.out,fun _=>HAU.out,fun h=>by omega,HBe.out⟩⟩
        case measure=>simp[intOf]
    | 2,_=>
      have HBo:=Lib.hid HO.out.2.2.2
      have hix:∀W:World,(Instr.index 113 (.agg #[.slice aa an.length ac,.slice ua au.length uc,.slice da ad.length dc]) (.int .i64 2)).run Tryz.prog W= .ok (.slice da ad.length dc) W:=fun W=>by kernel_rfl
      have H1:=Lib.hid (HO.out.1 (by omega))
      have H2:=Lib.hid (HO.out.2.1 (by omega))
      go_wp2_with fail
      go_loopw [77] (fun kv wr=>∃k:Nat,k≤ad.length∧kv= .int .i64 (k:Int)∧Hid ((ad.take k).all wi.qR=true∧Below w.heap.size w wr)) (fun kv _=>ad.length-(intOf kv).toNat)
      case atStart=>exact⟨0,Nat.zero_le _,rfl,Lib.hid ⟨rfl,HBo.out⟩⟩
      case round=>
       obtain⟨k,hk,rfl,HR⟩:=hrel
       obtain⟨w3,hw3⟩:∃X:World,X=wr:=⟨_,rfl⟩
       subst hw3
       by_cases hlt:k<ad.length
       ·have hki:(k:Int)<(ad.length:Int):=by omega
        obtain⟨_,_,hv,_,hr0⟩:=HD.out.below HR.out.2
        simp only[Value.slice.injEq,true_and]at hv
        obtain⟨rfl,rfl⟩:=hv
        obtain⟨bb,off,rfl,hbl,c0,c1,c2,c3,c4⟩:=hr0 k hlt
        obtain⟨x,hx⟩:∃x,x=ad[k]:=⟨_,rfl⟩
        rw[← hx]at c0 c1 c2 c3 c4
        obtain⟨wa,hwa⟩:∃W,W=w3.alloc (.cells (recC x).toArray 51):=⟨_,rfl⟩
        obtain⟨hBa,hsa,hxa⟩:=qM w3 wa x hwa
        obtain⟨x0,x1,x2,x3,x4⟩:=hxa
        have HWA:=Lib.hid hwa;have HX:=Lib.hid hx;have HLT:=Lib.hid hlt
        have HB4:=Lib.hid (HR.out.2.trans (hBa.mono HR.out.2.size))
        clear hwa hx hBa hsa hr0 hbl
        go_upto_region 15 with fail
        rw[← HWA.out]
        clear c0 c1 c2 c3 c4
        go_wp2_with fail
        refine(JV x _).mono ?_
        rintro e w5 ⟨rfl,hB5⟩
        have HB5:=Lib.hid (HB4.out.trans (hB5.mono HB4.out.size))
        clear hB5 x0 x1 x2 x3 x4
        obtain⟨rb,hrb⟩:∃rb,rb=wi.qR x:=⟨_,rfl⟩
        rw[← hrb]
        have HRB:=Lib.hid hrb
        clear hrb
        cases rb
        ·have hr:wi.okI (wi.jI h qs an au ad)=8:=by
          have h1:=wi.Z0 wi.qR HLT.out HX.out HRB.out.symm
          simp[wi.okI,wi.jI,h1]
         have HR:=Lib.hid hr
         clear hr
         go_wp2_with fail
         go_ret
         exact⟨qH HR.out.symm,HB5.out⟩
        ·go_wp2_with fail
         go_roundw
         case rel=>
          repeat apply Exists.intro
          refine And.intro ?_ ?_
          rotate_left
          ·repeat (first | exact rfl | refine And.intro rfl ?_)
          exact⟨k+1,by omega,by go_num,Lib.hid ⟨wi.Uh wi.qR HLT.out HR.out.1 HX.out HRB.out.symm,HB5.out⟩⟩
         case measure=>simp[intOf];omega
       ·obtain rfl:k=ad.length:=by omega
        have HAD:=Lib.hid (show ad.all wi.qR=true by have:=HR.out.1;rwa [List.take_length]at this)
        have HBe:=Lib.hid HR.out.2
        clear hlt
        go_wp2_with fail
        go_roundw
        case rel=>exact⟨3,by omega,rfl,Lib.hid ⟨fun _=>H1.out,fun _=>H2.out,fun _=>HAD.out,HBe.out⟩⟩
        case measure=>simp[intOf]
    | 3,_=>
      have hr:wi.okI (wi.jI h qs an au ad)=0:=by
       simp[wi.okI,wi.jI,wi.hdB,HI2.out,HI3.out,HI4.out,HLEN.out,HQA.out,HO.out.1 (by omega),HO.out.2.1 (by omega),HO.out.2.2.1 (by omega)]
      have HR:=Lib.hid hr
      clear hr
      go_wp2_with fail
      go_ret
      exact⟨qH HR.out.symm,HO.out.2.2.2⟩
end Go.Proofs.YtdjjemajfphjaaaGreat
