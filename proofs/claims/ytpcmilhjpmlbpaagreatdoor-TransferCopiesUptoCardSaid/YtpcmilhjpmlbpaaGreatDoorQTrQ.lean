import Derived.Test.YtpcmilhjpmlbpaaGreatDoorQRzF
import Derived.Test.YtpcmilhjpmlbpaaGreatDoorQZoneC
import Derived.Test.YtpcmilhjpmlbpaaGreatDoorQTrP
import Derived.Deep.CutBlock
set_option maxRecDepth 100000
set_option maxHeartbeats 8000000
namespace Go.Proofs.YtpcmilhjpmlbpaaGreatDoor
open Go.RowKit Go.Shelf nm od
def Writ (w:World)(base:Nat)(v:Value)(n:Nat):Prop:=∃xs,w.ownsRow base 80 5 v n xs
theorem Writ.set {w:World}{base g n cap:Nat}(h:Writ w base (.slice (some ⟨g,0,none⟩) n cap) n)(j:Nat)(u:Value):Writ (w.setCell ⟨g,j,none⟩ u) base (.slice (some ⟨g,0,none⟩) n cap) n∧w.grownBy (w.setCell ⟨g,j,none⟩ u) (some g):=by
 obtain⟨xs,hx⟩:=h
 obtain⟨h1,h2⟩:=hx.stored j u
 exact⟨⟨_,h1⟩,h2⟩
theorem Writ.cells {w:World}{base g n cap:Nat}(h:Writ w base (.slice (some ⟨g,0,none⟩) n cap) n){j:Nat}(hj:j<n*5):∃u,w.cell? ⟨g,j,none⟩=some u∧w.frozen? ⟨g,j,none⟩=false:=by
 obtain⟨xs,hx⟩:=h
 have h1:=hx.cellAt j hj
 rw[List.getElem?_eq_getElem (by rw[hx.1];exact hj)]at h1
 exact⟨_,h1,hx.frozenAt j⟩
abbrev spareR:Rec:=⟨⟨#[115,112,97,114,101]⟩,-77,-77,-77,⟨#[115,112,97,114,101]⟩⟩
theorem rec_size:(Tryz.prog.info? 80).map (·.size)=some 5:=by kernel_rfl
theorem Zf (l:List Rec):∀u∈qx l,u.oneCell'=true:=fun u hu=>by
 unfold qx at hu
 obtain⟨r,_,hr⟩:=List.mem_flatMap.1 hu
 simp only[List.mem_cons,List.not_mem_nil,or_false]at hr
 rcases hr with rfl | rfl | rfl | rfl | rfl <;> rfl
end Go.Proofs.YtpcmilhjpmlbpaaGreatDoor
namespace Go.Proofs.YtpcmilhjpmlbpaaGreatDoor
open Go.RowKit Go.Shelf Go.WideMaps nm od
structure Qn where
 name:ByteArray
 typ:Int
 cls:Int
@[reducible] def qnC (q:Qn):List Value:=[.string q.name,.int .i64 q.typ,.int .i64 q.cls]
def QnAt (w:World)(b off:Nat)(q:Qn):Prop:=w.cell? ⟨b,off,none⟩=some (.string q.name)∧w.cell? ⟨b,off+1,none⟩=some (.int .i64 q.typ)∧w.cell? ⟨b,off+2,none⟩=some (.int .i64 q.cls)
def jL (w:World)(v:Value)(l:List Qn):Prop:=
 ∃a cap,v= .slice a l.length cap∧l.length≤cap∧∀k (hk:k<l.length),∃b off,a=some ⟨b,off,none⟩∧b<w.heap.size∧QnAt w b (off+k*3) l[k]
theorem QnAt.keep {w w':World}{b off:Nat}{q:Qn}(h:QnAt w b off q)(hk:w'.heap[b]? =w.heap[b]?):QnAt w' b off q:=by
 have e:∀i,w'.cell? ⟨b,i,none⟩=w.cell? ⟨b,i,none⟩:=fun i=>World.cell?_of_block (w:=w) (a:=⟨b,i,none⟩) hk
 exact⟨(e _).trans h.1,(e _).trans h.2.1,(e _).trans h.2.2⟩
theorem jL.below {w w':World}{v:Value}{l:List Qn}(h:jL w v l)(hb:Below w.heap.size w w'):jL w' v l:=by
 obtain⟨a,cap,hv,hc,hr⟩:=h
 refine⟨a,cap,hv,hc,fun k hk=>?_⟩
 obtain⟨b,off,ha,hbl,hra⟩:=hr k hk
 exact⟨b,off,ha,Nat.lt_of_lt_of_le hbl hb.size,hra.keep (hb.block b hbl)⟩
theorem qn_new (w w1:World)(q:Qn)(h:w1=w.alloc (.cells (qnC q).toArray 78)):Below w.heap.size w w1∧w1.heap.size=w.heap.size+1∧QnAt w1 w.heap.size 0 q:=by
 subst h
 refine⟨(Below.refl _ w).alloc (Nat.le_refl _) _,by simp,?_,?_,?_⟩ <;> (rw[qg (qB rfl)];rfl)
end Go.Proofs.YtpcmilhjpmlbpaaGreatDoor
namespace Go.Proofs.YtpcmilhjpmlbpaaGreatDoor
open Go.RowKit Go.Shelf nm od
deriving instance DecidableEq for Qn
deriving instance Inhabited for Qn
structure Hd where
 id:Int
 K9:Bool
 op:Int
 aa:Bool
 tc:Bool
 rd:Bool
 ra:Bool
 ad:Bool
 cd:Bool
 ug:Int
 deriving DecidableEq,Inhabited
@[reducible] def kK (h:Hd) (q a u d:Value):List Value:=[.int .i64 h.id,.bool h.K9,.int .i64 h.op,.bool h.aa,.bool h.tc,.bool h.rd,.bool h.ra,.bool h.ad,.bool h.cd,.int .i64 h.ug,q,a,u,d]
@[reducible] def uj (h:Hd) (q a u d:Value):Value:=.agg #[.int .i64 h.id,.bool h.K9,.int .i64 h.op,.bool h.aa,.bool h.tc,.bool h.rd,.bool h.ra,.bool h.ad,.bool h.cd,.int .i64 h.ug,q,a,u,d]
def qA (w:World)(b:Nat)(h:Hd)(q a u d:Value):Prop:=w.heap[b]? =some (.cells (kK h q a u d).toArray 33 (0,0))
theorem qA.lt {w:World}{b:Nat}{h:Hd}{q a u d:Value}(hb:qA w b h q a u d):b<w.heap.size:=qo hb
theorem qA.below {w w':World}{b:Nat}{h:Hd}{q a u d:Value}(hb:qA w b h q a u d)(hB:Below w.heap.size w w'):qA w' b h q a u d:=(hB.block b hb.lt).trans hb
theorem jD {w w1:World}{h:Hd}{q a u d:Value}(e:w1=w.alloc (.cells (kK h q a u d).toArray 33)):Below w.heap.size w w1∧w1.heap.size=w.heap.size+1∧qA w1 w.heap.size h q a u d:=by
 subst e
 exact⟨(Below.refl _ w).alloc (Nat.le_refl _) _,by simp,qB rfl⟩
theorem qA.facts {w:World}{b:Nat}{h:Hd}{q a u d:Value}(hb:qA w b h q a u d):
 w.cell? ⟨b,0,none⟩=some (.int .i64 h.id)∧w.cell? ⟨b,1,none⟩=some (.bool h.K9)∧w.cell? ⟨b,2,none⟩=some (.int .i64 h.op)∧w.cell? ⟨b,3,none⟩=some (.bool h.aa)∧w.cell? ⟨b,4,none⟩=some (.bool h.tc)∧
 w.cell? ⟨b,5,none⟩=some (.bool h.rd)∧w.cell? ⟨b,6,none⟩=some (.bool h.ra)∧w.cell? ⟨b,7,none⟩=some (.bool h.ad)∧w.cell? ⟨b,8,none⟩=some (.bool h.cd)∧w.cell? ⟨b,9,none⟩=some (.int .i64 h.ug)∧
 w.cell? ⟨b,10,none⟩=some q∧w.cell? ⟨b,11,none⟩=some a∧w.cell? ⟨b,12,none⟩=some u∧w.cell? ⟨b,13,none⟩=some d:=by
 unfold qA at hb
 refine⟨?_,?_,?_,?_,?_,?_,?_,?_,?_,?_,?_,?_,?_,?_⟩ <;> (rw[qg hb];rfl)
theorem qA.free {w:World}{b:Nat}{h:Hd}{q a u d:Value}(hb:qA w b h q a u d)(i:Nat):w.frozen? ⟨b,i,none⟩=false:=qD hb i
theorem qn_if {α:Type}(r s:Qn)(A B:α):(if r.name.toList=s.name.toList then(if r.typ=s.typ then(if r.cls=s.cls then A else B) else B) else B)=if r=s then A else B:=by
 obtain⟨a1,a2,a3⟩:=r
 obtain⟨b1,b2,b3⟩:=s
 have e:∀a b:ByteArray,a.toList=b.toList↔a=b:=fun a b=>by rw[← str_eq,beq_iff_eq]
 simp only[e,Qn.mk.injEq]
 by_cases h1:a1=b1 <;> by_cases h2:a2=b2 <;> by_cases h3:a3=b3 <;> simp[h1,h2,h3]
end Go.Proofs.YtpcmilhjpmlbpaaGreatDoor
namespace Go.Proofs.YtpcmilhjpmlbpaaGreatDoor
open Go.RowKit Go.Shelf nm od
namespace wi
def qnB (q:Qn):Bool:=qj q.name && inB q.typ 65535 && inB q.cls 65535
def hdB (h:Hd):Bool:=inB h.id 65535 && inB h.op 15 && inB h.ug 15
def lenB (qs:List Qn)(an au ad:List Rec):Bool:=decide (qs.length≤65535∧an.length≤65535∧au.length≤65535∧ad.length≤65535)
def jX (h:Hd)(qs:List Qn)(an au ad:List Rec):Bool:=hdB h && lenB qs an au ad && qs.all qnB && an.all ze && au.all ze && ad.all ze
def okI (b:Bool):Int:=if b=true then 0 else 8
theorem all_next {α:Type}(f:α→Bool){l:List α}{k:Nat}(h:k<l.length):(l.take (k+1)).all f=((l.take k).all f && f l[k]):=by
 rw[List.take_succ_eq_append_getElem h,List.all_append]
 simp
theorem all_bad {α:Type}(f:α→Bool){l:List α}{k:Nat}(h:k<l.length)(hf:f l[k]=false):l.all f=false:=by
 rw[List.all_eq_false]
 exact⟨l[k],List.getElem_mem h,by rw[hf];simp⟩
theorem KJ {α:Type}(f:α→Bool){l:List α}{k:Nat}{x:α}(h:k<l.length)(ht:(l.take k).all f=true)(hx:x=l[k])(hf:f x=true):(l.take (k+1)).all f=true:=by
 subst hx
 rw[all_next f h,ht,hf];rfl
theorem Zz {α:Type}(f:α→Bool){l:List α}{k:Nat}{x:α}(h:k<l.length)(hx:x=l[k])(hf:f x=false):l.all f=false:=by
 subst hx
 exact all_bad f h hf
end wi
theorem run_max4 (ts:Array TypeId)(t:TypeId)(a b c d:Int)(w:World):∃M,(Builtin.max_ ts t #[.int .i64 a,.int .i64 b,.int .i64 c,.int .i64 d]).run Tryz.prog w= .ok (.int .i64 M) w∧(65535<M↔65535<a∨65535<b∨65535<c∨65535<d):=by
 obtain⟨m2,hm2⟩:∃m,m=if b > a then b else a:=⟨_,rfl⟩
 obtain⟨m3,hm3⟩:∃m,m=if c > m2 then c else m2:=⟨_,rfl⟩
 refine⟨if d > m3 then d else m3,?_,?_⟩
 ·rw[hm3,hm2]
  simp[Builtin.max_,Builtin.max2]
 ·rw[hm3,hm2]
  repeat' split
  all_goals omega
theorem VI (h:Hd)(qs:List Qn)(an au ad:List Rec)(hq:qs.length≤1000000000000)(ha:an.length≤1000000000000)(hu:au.length≤1000000000000)(hd:ad.length≤1000000000000)(q a u d:Value)(w:World)
 (rq:jL w q qs) (ra:qz w a an) (ru:qz w u au) (rd:qz w d ad):
 Calls Tryz.prog 34 #[uj h q a u d] w fun e w'=>e= .returned (.int .i64 (wi.okI (wi.jX h qs an au ad)))∧Below w.heap.size w w':=by
 obtain⟨w1,hw1⟩:∃X,X=w.alloc (.cells (kK h q a u d).toArray 33):=⟨_,rfl⟩
 obtain⟨hB1,hs1,hm1⟩:=jD hw1
 have HQ:=Lib.hid rq;have HA:=Lib.hid ra;have HU:=Lib.hid ru;have HD:=Lib.hid rd
 obtain⟨qa,qc,rfl,-⟩:=id rq
 obtain⟨aa,ac,rfl,-⟩:=id ra
 obtain⟨ua,uc,rfl,-⟩:=id ru
 obtain⟨da,dc,rfl,-⟩:=id rd
 obtain⟨x0,x1,x2,x3,x4,x5,x6,x7,x8,x9,x10,x11,x12,x13⟩:=hm1.facts
 have HW1:=Lib.hid hw1;have HB1:=Lib.hid hB1;have HM1:=Lib.hid hm1
 clear hw1 hB1 hm1
 clear hs1 rq ra ru rd
 go_enter Tryz.func34,Tryz.ntmps34
 go_upto_region 1 with fail
 rw[← HW1.out]
 go_wp2_with fail
 refine(Yy _ _ _).mono ?_
 rintro e w2 ⟨rfl,rfl⟩
 obtain⟨b2,hb2⟩:∃b,b=wi.inB h.id 65535:=⟨_,rfl⟩
 rw[← hb2]
 cases b2
 ·have hr:wi.okI (wi.jX h qs an au ad)=8:=by simp[wi.okI,wi.jX,wi.hdB,← hb2]
  clear hb2
  have HR:=Lib.hid hr
  clear hr
  go_wp2_with fail
  go_ret
  exact⟨qL HR.out.symm,HB1.out⟩
 have HI2:=Lib.hid hb2.symm
 clear hb2
 go_wp2_with fail
 refine(Yy _ _ _).mono ?_
 rintro e w3 ⟨rfl,rfl⟩
 obtain⟨b3,hb3⟩:∃b,b=wi.inB h.op 15:=⟨_,rfl⟩
 rw[← hb3]
 cases b3
 ·have hr:wi.okI (wi.jX h qs an au ad)=8:=by simp[wi.okI,wi.jX,wi.hdB,← hb3]
  clear hb3
  have HR:=Lib.hid hr
  clear hr
  go_wp2_with fail
  go_ret
  exact⟨qL HR.out.symm,HB1.out⟩
 have HI3:=Lib.hid hb3.symm
 clear hb3
 go_wp2_with fail
 refine(Yy _ _ _).mono ?_
 rintro e w4 ⟨rfl,rfl⟩
 obtain⟨b4,hb4⟩:∃b,b=wi.inB h.ug 15:=⟨_,rfl⟩
 rw[← hb4]
 cases b4
 ·have hr:wi.okI (wi.jX h qs an au ad)=8:=by simp[wi.okI,wi.jX,wi.hdB,← hb4]
  clear hb4
  have HR:=Lib.hid hr
  clear hr
  go_wp2_with fail
  go_ret
  exact⟨qL HR.out.symm,HB1.out⟩
 have HI4:=Lib.hid hb4.symm
 clear hb4
 obtain⟨M,hmax,hM⟩:=run_max4 #[3,3,3,3] 3 (qs.length:Int) (an.length:Int) (au.length:Int) (ad.length:Int) w1
 by_cases hlen:65535<M
 ·have d1:decide (65535<M)=true:=decide_eq_true hlen
  have hr:wi.okI (wi.jX h qs an au ad)=8:=by
   have h1:wi.lenB qs an au ad=false:=decide_eq_false fun h=>by omega
   simp[wi.okI,wi.jX,h1]
  clear hM hlen
  have HR:=Lib.hid hr
  clear hr
  go_wp2_with fail
  go_ret
  exact⟨qL HR.out.symm,HB1.out⟩
 have d1:decide (65535<M)=false:=decide_eq_false hlen
 have HLEN:=Lib.hid (show wi.lenB qs an au ad=true from decide_eq_true (by omega))
 clear hM hlen
 go_wp2_with fail
 go_loopw [44] (fun kv wr=>∃k:Nat,k≤qs.length∧kv= .int .i64 (k:Int)∧Hid ((qs.take k).all wi.qnB=true∧Below w1.heap.size w1 wr)) (fun kv _=>qs.length-(intOf kv).toNat)
 case atStart=>exact⟨0,Nat.zero_le _,rfl,Lib.hid ⟨rfl,Below.refl _ _⟩⟩
 case round=>
  obtain⟨k,hk,rfl,HR⟩:=hrel
  obtain⟨w3,hw3⟩:∃X:World,X=wr:=⟨_,rfl⟩
  subst hw3
  have HB3:=Lib.hid (HB1.out.trans (HR.out.2.mono HB1.out.size))
  by_cases hlt:k<qs.length
  ·have hki:(k:Int)<(qs.length:Int):=by omega
   obtain⟨_,_,hv,_,hr0⟩:=jL.below HQ.out HB3.out
   simp only[Value.slice.injEq,true_and]at hv
   obtain⟨rfl,rfl⟩:=hv
   obtain⟨bb,off,rfl,hbl,c0,c1,c2⟩:=hr0 k hlt
   obtain⟨x,hx⟩:∃x,x=qs[k]:=⟨_,rfl⟩
   rw[← hx]at c0 c1 c2
   obtain⟨wa,hwa⟩:∃W,W=w3.alloc (.cells (qnC x).toArray 78):=⟨_,rfl⟩
   obtain⟨hBa,hsa,hxa⟩:=qn_new w3 wa x hwa
   obtain⟨bx,hbx⟩:∃b,b=w3.heap.size:=⟨_,rfl⟩
   rw[← hbx]at hxa
   have hbxl:bx<wa.heap.size:=by omega
   obtain⟨y0,y1,y2⟩:=id hxa
   simp only[Nat.zero_add]at y1 y2
   have HWA:=Lib.hid hwa;have HX:=Lib.hid hx;have HLT:=Lib.hid hlt;have HXA:=Lib.hid hxa;have Vt:=Lib.hid hbxl;have HBX:=Lib.hid hbx
   have HB4:=Lib.hid (HB3.out.trans (hBa.mono HB3.out.size))
   have HC4:=Lib.hid (HR.out.2.trans (hBa.mono HR.out.2.size))
   clear hwa hx hBa hsa hr0 hbl hxa hbxl hbx
   go_upto_region 6 with fail
   rw[← HWA.out,← HBX.out]
   clear c0 c1 c2
   go_wp2_with fail
   refine(zk _ _).mono ?_
   rintro e w5 ⟨rfl,hB5⟩
   obtain⟨z0,z1,z2⟩:=HXA.out.keep (hB5.block bx Vt.out)
   simp only[Nat.zero_add]at z1 z2
   have HB5:=Lib.hid (HB4.out.trans (hB5.mono HB4.out.size))
   have HC5:=Lib.hid (HC4.out.trans (hB5.mono HC4.out.size))
   clear hB5 y0 y1 y2
   cases hc:qj x.name
   ·have hr:wi.okI (wi.jX h qs an au ad)=8:=by
     have h1:=wi.Zz wi.qnB HLT.out HX.out (by simp[wi.qnB,hc])
     simp[wi.okI,wi.jX,h1]
    rw[Zi]
    clear hc
    have HR:=Lib.hid hr
    clear hr
    go_wp2_with fail
    go_ret
    exact⟨qL HR.out.symm,HB5.out⟩
   ·rw[uh]
    have HC:=Lib.hid hc
    clear hc
    go_wp2_with fail
    refine(Yy _ _ _).mono ?_
    rintro e w6 ⟨rfl,rfl⟩
    obtain⟨b6,hb6⟩:∃b,b=wi.inB x.typ 65535:=⟨_,rfl⟩
    rw[← hb6]
    cases b6
    ·have hr:wi.okI (wi.jX h qs an au ad)=8:=by
      have h1:=wi.Zz wi.qnB HLT.out HX.out (by simp[wi.qnB,← hb6])
      simp[wi.okI,wi.jX,h1]
     clear hb6
     have HR:=Lib.hid hr
     clear hr
     go_wp2_with fail
     go_ret
     exact⟨qL HR.out.symm,HB5.out⟩
    have HI6:=Lib.hid hb6.symm
    clear hb6
    go_wp2_with fail
    refine(Yy _ _ _).mono ?_
    rintro e w7 ⟨rfl,rfl⟩
    obtain⟨b7,hb7⟩:∃b,b=wi.inB x.cls 65535:=⟨_,rfl⟩
    rw[← hb7]
    cases b7
    ·have hr:wi.okI (wi.jX h qs an au ad)=8:=by
      have h1:=wi.Zz wi.qnB HLT.out HX.out (by simp[wi.qnB,← hb7])
      simp[wi.okI,wi.jX,h1]
     clear hb7
     have HR:=Lib.hid hr
     clear hr
     go_wp2_with fail
     go_ret
     exact⟨qL HR.out.symm,HB5.out⟩
    have HI7:=Lib.hid hb7.symm
    clear hb7
    have HQB:=Lib.hid (wi.KJ wi.qnB HLT.out HR.out.1 HX.out (by simp[wi.qnB,HC.out,HI6.out,HI7.out]))
    go_wp2_with fail
    go_roundw
    case rel=>exact⟨k+1,by omega,by go_num,Lib.hid ⟨HQB.out,HC5.out⟩⟩
    case measure=>simp[intOf];omega
  ·obtain rfl:k=qs.length:=by omega
   have HQA:=Lib.hid (show qs.all wi.qnB=true by have:=HR.out.1;rwa [List.take_length]at this)
   obtain⟨y0,y1,y2,y3,y4,y5,y6,y7,y8,y9,y10,y11,y12,y13⟩:=(HM1.out.below HR.out.2).facts
   clear hlt x0 x1 x2 x3 x4 x5 x6 x7 x8 x9 x10 x11 x12 x13
   go_wp2_with fail
   clear y0 y1 y2 y3 y4 y5 y6 y7 y8 y9 y10 y11 y12 y13
   go_loopw [72] (fun jv wr=>∃j:Nat,j≤3∧jv= .int .i64 (j:Int)∧Hid ((1≤j→an.all wi.ze=true)∧(2≤j→au.all wi.ze=true)∧(3≤j→ad.all wi.ze=true)∧Below w.heap.size w wr)) (fun jv _=>3-(intOf jv).toNat)
   case atStart=>exact⟨0,by omega,rfl,Lib.hid ⟨fun h=>by omega,fun h=>by omega,fun h=>by omega,HB3.out⟩⟩
   case round=>
    obtain⟨j,hj,rfl,HO⟩:=hrel
    obtain⟨wo,hwo⟩:∃X:World,X=wr:=⟨_,rfl⟩
    subst hwo
    match j,hj with
    | 0,_=>
      have HBo:=Lib.hid HO.out.2.2.2
      have hix:∀W:World,(Instr.index 124 (.agg #[.slice aa an.length ac,.slice ua au.length uc,.slice da ad.length dc]) (.int .i64 0)).run Tryz.prog W= .ok (.slice aa an.length ac) W:=fun W=>by kernel_rfl
      go_wp2_with fail
      go_loopw [77] (fun kv wr=>∃k:Nat,k≤an.length∧kv= .int .i64 (k:Int)∧Hid ((an.take k).all wi.ze=true∧Below w.heap.size w wr)) (fun kv _=>an.length-(intOf kv).toNat)
      case atStart=>exact⟨0,Nat.zero_le _,rfl,Lib.hid ⟨rfl,HBo.out⟩⟩
      case round=>
       obtain⟨k,hk,rfl,HR⟩:=hrel
       obtain⟨w3,hw3⟩:∃X:World,X=wr:=⟨_,rfl⟩
       subst hw3
       by_cases hlt:k<an.length
       ·have hki:(k:Int)<(an.length:Int):=by omega
        obtain⟨_,_,hv,_,hr0⟩:=HA.out.below HR.out.2
        simp only[Value.slice.injEq,true_and]at hv
        obtain⟨rfl,rfl⟩:=hv
        obtain⟨bb,off,rfl,hbl,c0,c1,c2,c3,c4⟩:=hr0 k hlt
        obtain⟨x,hx⟩:∃x,x=an[k]:=⟨_,rfl⟩
        rw[← hx]at c0 c1 c2 c3 c4
        obtain⟨wa,hwa⟩:∃W,W=w3.alloc (.cells (recC x).toArray 80):=⟨_,rfl⟩
        obtain⟨hBa,hsa,hxa⟩:=zw w3 wa x hwa
        obtain⟨x0,x1,x2,x3,x4⟩:=hxa
        have HWA:=Lib.hid hwa;have HX:=Lib.hid hx;have HLT:=Lib.hid hlt
        have HB4:=Lib.hid (HR.out.2.trans (hBa.mono HR.out.2.size))
        clear hwa hx hBa hsa hr0 hbl
        go_upto_region 15 with fail
        rw[← HWA.out]
        clear c0 c1 c2 c3 c4
        go_wp2_with fail
        refine(Jv x _).mono ?_
        rintro e w5 ⟨rfl,hB5⟩
        have HB5:=Lib.hid (HB4.out.trans (hB5.mono HB4.out.size))
        clear hB5 x0 x1 x2 x3 x4
        obtain⟨rb,hrb⟩:∃rb,rb=wi.ze x:=⟨_,rfl⟩
        rw[← hrb]
        have HRB:=Lib.hid hrb
        clear hrb
        cases rb
        ·have hr:wi.okI (wi.jX h qs an au ad)=8:=by
          have h1:=wi.Zz wi.ze HLT.out HX.out HRB.out.symm
          simp[wi.okI,wi.jX,h1]
         have HR:=Lib.hid hr
         clear hr
         go_wp2_with fail
         go_ret
         exact⟨qL HR.out.symm,HB5.out⟩
        ·go_wp2_with fail
         go_roundw
         case rel=>
          repeat apply Exists.intro
          refine And.intro ?_ ?_
          rotate_left
          ·repeat (first | exact rfl | refine And.intro rfl ?_)
          exact⟨k+1,by omega,by go_num,Lib.hid ⟨wi.KJ wi.ze HLT.out HR.out.1 HX.out HRB.out.symm,HB5.out⟩⟩
         case measure=>simp[intOf];omega
       ·obtain rfl:k=an.length:=by omega
        have HAN:=Lib.hid (show an.all wi.ze=true by have:=HR.out.1;rwa [List.take_length]at this)
        have HBe:=Lib.hid HR.out.2
        clear hlt
        go_wp2_with fail
        go_roundw
        case rel=>exact⟨1,by omega,rfl,Lib.hid ⟨fun _=>HAN.out,fun h=>by omega,fun h=>by omega,HBe.out⟩⟩
        case measure=>simp[intOf]
    | 1,_=>
      have HBo:=Lib.hid HO.out.2.2.2
      have hix:∀W:World,(Instr.index 124 (.agg #[.slice aa an.length ac,.slice ua au.length uc,.slice da ad.length dc]) (.int .i64 1)).run Tryz.prog W= .ok (.slice ua au.length uc) W:=fun W=>by kernel_rfl
      have H1:=Lib.hid (HO.out.1 (by omega))
      go_wp2_with fail
      go_loopw [77] (fun kv wr=>∃k:Nat,k≤au.length∧kv= .int .i64 (k:Int)∧Hid ((au.take k).all wi.ze=true∧Below w.heap.size w wr)) (fun kv _=>au.length-(intOf kv).toNat)
      case atStart=>exact⟨0,Nat.zero_le _,rfl,Lib.hid ⟨rfl,HBo.out⟩⟩
      case round=>
       obtain⟨k,hk,rfl,HR⟩:=hrel
       obtain⟨w3,hw3⟩:∃X:World,X=wr:=⟨_,rfl⟩
       subst hw3
       by_cases hlt:k<au.length
       ·have hki:(k:Int)<(au.length:Int):=by omega
        obtain⟨_,_,hv,_,hr0⟩:=HU.out.below HR.out.2
        simp only[Value.slice.injEq,true_and]at hv
        obtain⟨rfl,rfl⟩:=hv
        obtain⟨bb,off,rfl,hbl,c0,c1,c2,c3,c4⟩:=hr0 k hlt
        obtain⟨x,hx⟩:∃x,x=au[k]:=⟨_,rfl⟩
        rw[← hx]at c0 c1 c2 c3 c4
        obtain⟨wa,hwa⟩:∃W,W=w3.alloc (.cells (recC x).toArray 80):=⟨_,rfl⟩
        obtain⟨hBa,hsa,hxa⟩:=zw w3 wa x hwa
        obtain⟨x0,x1,x2,x3,x4⟩:=hxa
        have HWA:=Lib.hid hwa;have HX:=Lib.hid hx;have HLT:=Lib.hid hlt
        have HB4:=Lib.hid (HR.out.2.trans (hBa.mono HR.out.2.size))
        clear hwa hx hBa hsa hr0 hbl
        go_upto_region 15 with fail
        rw[← HWA.out]
        clear c0 c1 c2 c3 c4
        go_wp2_with fail
        refine(Jv x _).mono ?_
        rintro e w5 ⟨rfl,hB5⟩
        have HB5:=Lib.hid (HB4.out.trans (hB5.mono HB4.out.size))
        clear hB5 x0 x1 x2 x3 x4
        obtain⟨rb,hrb⟩:∃rb,rb=wi.ze x:=⟨_,rfl⟩
        rw[← hrb]
        have HRB:=Lib.hid hrb
        clear hrb
        cases rb
        ·have hr:wi.okI (wi.jX h qs an au ad)=8:=by
          have h1:=wi.Zz wi.ze HLT.out HX.out HRB.out.symm
          simp[wi.okI,wi.jX,h1]
         have HR:=Lib.hid hr
         clear hr
         go_wp2_with fail
         go_ret
         exact⟨qL HR.out.symm,HB5.out⟩
        ·go_wp2_with fail
         go_roundw
         case rel=>
          repeat apply Exists.intro
          refine And.intro ?_ ?_
          rotate_left
          ·repeat (first | exact rfl | refine And.intro rfl ?_)
          exact⟨k+1,by omega,by go_num,Lib.hid ⟨wi.KJ wi.ze HLT.out HR.out.1 HX.out HRB.out.symm,HB5.out⟩⟩
         case measure=>simp[intOf];omega
       ·obtain rfl:k=au.length:=by omega
        have HAU:=Lib.hid (show au.all wi.ze=true by have:=HR.out.1;rwa [List.take_length]at this)
        have HBe:=Lib.hid HR.out.2
        clear hlt
        go_wp2_with fail
        go_roundw
        case rel=>exact⟨2,by omega,rfl,Lib.hid ⟨fun _=>H1.out,fun _=>HAU.out,fun h=>by omega,HBe.out⟩⟩
        case measure=>simp[intOf]
    | 2,_=>
      have HBo:=Lib.hid HO.out.2.2.2
      have hix:∀W:World,(Instr.index 124 (.agg #[.slice aa an.length ac,.slice ua au.length uc,.slice da ad.length dc]) (.int .i64 2)).run Tryz.prog W= .ok (.slice da ad.length dc) W:=fun W=>by kernel_rfl
      have H1:=Lib.hid (HO.out.1 (by omega))
      have H2:=Lib.hid (HO.out.2.1 (by omega))
      go_wp2_with fail
      go_loopw [77] (fun kv wr=>∃k:Nat,k≤ad.length∧kv= .int .i64 (k:Int)∧Hid ((ad.take k).all wi.ze=true∧Below w.heap.size w wr)) (fun kv _=>ad.length-(intOf kv).toNat)
      case atStart=>exact⟨0,Nat.zero_le _,rfl,Lib.hid ⟨rfl,HBo.out⟩⟩
      case round=>
       obtain⟨k,hk,rfl,HR⟩:=hrel
       obtain⟨w3,hw3⟩:∃X:World,X=wr:=⟨_,rfl⟩
       subst hw3
       by_cases hlt:k<ad.length
       ·have hki:(k:Int)<(ad.length:Int):=by omega
        obtain⟨_,_,hv,_,hr0⟩:=HD.out.below HR.out.2
        simp only[Value.slice.injEq,true_and]at hv
        obtain⟨rfl,rfl⟩:=hv
        obtain⟨bb,off,rfl,hbl,c0,c1,c2,c3,c4⟩:=hr0 k hlt
        obtain⟨x,hx⟩:∃x,x=ad[k]:=⟨_,rfl⟩
        rw[← hx]at c0 c1 c2 c3 c4
        obtain⟨wa,hwa⟩:∃W,W=w3.alloc (.cells (recC x).toArray 80):=⟨_,rfl⟩
        obtain⟨hBa,hsa,hxa⟩:=zw w3 wa x hwa
        obtain⟨x0,x1,x2,x3,x4⟩:=hxa
        have HWA:=Lib.hid hwa;have HX:=Lib.hid hx;have HLT:=Lib.hid hlt
        have HB4:=Lib.hid (HR.out.2.trans (hBa.mono HR.out.2.size))
        clear hwa hx hBa hsa hr0 hbl
        go_upto_region 15 with fail
        rw[← HWA.out]
        clear c0 c1 c2 c3 c4
        go_wp2_with fail
        refine(Jv x _).mono ?_
        rintro e w5 ⟨rfl,hB5⟩
        have HB5:=Lib.hid (HB4.out.trans (hB5.mono HB4.out.size))
        clear hB5 x0 x1 x2 x3 x4
        obtain⟨rb,hrb⟩:∃rb,rb=wi.ze x:=⟨_,rfl⟩
        rw[← hrb]
        have HRB:=Lib.hid hrb
        clear hrb
        cases rb
        ·have hr:wi.okI (wi.jX h qs an au ad)=8:=by
          have h1:=wi.Zz wi.ze HLT.out HX.out HRB.out.symm
          simp[wi.okI,wi.jX,h1]
         have HR:=Lib.hid hr
         clear hr
         go_wp2_with fail
         go_ret
         exact⟨qL HR.out.symm,HB5.out⟩
        ·go_wp2_with fail
         go_roundw
         case rel=>
          repeat apply Exists.intro
          refine And.intro ?_ ?_
          rotate_left
          ·repeat (first | exact rfl | refine And.intro rfl ?_)
          exact⟨k+1,by omega,by go_num,Lib.hid ⟨wi.KJ wi.ze HLT.out HR.out.1 HX.out HRB.out.symm,HB5.out⟩⟩
         case measure=>simp[intOf];omega
       ·obtain rfl:k=ad.length:=by omega
        have HAD:=Lib.hid (show ad.all wi.ze=true by have:=HR.out.1;rwa [List.take_length]at this)
        have HBe:=Lib.hid HR.out.2
        clear hlt
        go_wp2_with fail
        go_roundw
        case rel=>exact⟨3,by omega,rfl,Lib.hid ⟨fun _=>H1.out,fun _=>H2.out,fun _=>HAD.out,HBe.out⟩⟩
        case measure=>simp[intOf]
    | 3,_=>
      have hr:wi.okI (wi.jX h qs an au ad)=0:=by
       simp[wi.okI,wi.jX,wi.hdB,HI2.out,HI3.out,HI4.out,HLEN.out,HQA.out,HO.out.1 (by omega),HO.out.2.1 (by omega),HO.out.2.2.1 (by omega)]
      have HR:=Lib.hid hr
      clear hr
      go_wp2_with fail
      go_ret
      exact⟨qL HR.out.symm,HO.out.2.2.2⟩
end Go.Proofs.YtpcmilhjpmlbpaaGreatDoor
namespace Go.Proofs.YtpcmilhjpmlbpaaGreatDoor
open Go.RowKit Go.Shelf nm od
namespace tr
def frI (H:List Zn)(s:Int):Nat→Int
 | 0=>-1
 | k+1=>if zH (qZ H k)=s then(k:Int) else frI H s k
def K7 (H:List Zn)(s:Int):List Rec×Int:=
 if zy (zH (qM H)) s=false then([q9 (qM H)],0)
 else if 0≤frI H s H.length∧(yH H (frI H s H.length).toNat).length≤(yw (qM H)).length then(yH H (frI H s H.length).toNat,0)
 else(yw (qM H),0)
def yE (H:List Zn)(op:Int)(qs:List Qn)(au:List Rec):List Rec×Int:=
 match qs with
 | [q]=>
   if op≠0 then([],4)
   else if ¬(q.cls=1∧qF q.name (qM H).ap=true) then([],9)
   else if q.typ=252 then(yw (qM H),0)
   else if q.typ≠251 then([],5)
   else match au with
    | [x]=>if x.typ≠6∨x.data.size=0 then([],1) else K7 H (up.Yb x.data)
    | _=>([],1)
 | _=>([],1)
section
variable {H:List Zn}{op:Int}{qs:List Qn}{au:List Rec}{q:Qn}{x:Rec}
theorem row_many (h:qs.length≠1):yE H op qs au=([],1):=by
 match qs,h with
 | [],_=>rfl
 | [_],h=>exact absurd rfl h
 | _ :: _ :: _,_=>rfl
theorem row_op (h:op≠0):yE H op [q] au=([],4):=by unfold yE;exact if_pos h
theorem row_not (h:op=0)(h2:¬(q.cls=1∧qF q.name (qM H).ap=true)):yE H op [q] au=([],9):=by
 unfold yE;simp only;rw[if_neg (by simp[h]),if_pos h2]
theorem row_whole (h:op=0)(h2:q.cls=1∧qF q.name (qM H).ap=true)(h3:q.typ=252):yE H op [q] au=(yw (qM H),0):=by
 unfold yE;simp only;rw[if_neg (by simp[h]),if_neg (by simp[h2]),if_pos h3]
theorem row_other (h:op=0)(h2:q.cls=1∧qF q.name (qM H).ap=true)(h3:q.typ≠252)(h4:q.typ≠251):yE H op [q] au=([],5):=by
 unfold yE;simp only;rw[if_neg (by simp[h]),if_neg (by simp[h2]),if_neg h3,if_pos h4]
theorem row_auth (h:op=0)(h2:q.cls=1∧qF q.name (qM H).ap=true)(h4:q.typ=251)(h5:au.length≠1):yE H op [q] au=([],1):=by
 unfold yE;simp only;rw[if_neg (by simp[h]),if_neg (by simp[h2]),if_neg (by omega),if_neg (by simp[h4])]
 match au,h5 with
 | [],_=>rfl
 | [_],h=>exact absurd rfl h
 | _ :: _ :: _,_=>rfl
theorem row_bad (h:op=0)(h2:q.cls=1∧qF q.name (qM H).ap=true)(h4:q.typ=251)(h5:x.typ≠6∨x.data.size=0):yE H op [q] [x]=([],1):=by
 unfold yE;simp only;rw[if_neg (by simp[h]),if_neg (by simp[h2]),if_neg (by omega),if_neg (by simp[h4]),if_pos h5]
theorem row_step (h:op=0)(h2:q.cls=1∧qF q.name (qM H).ap=true)(h4:q.typ=251)(h5:x.typ=6)(h6:x.data.size≠0):yE H op [q] [x]=K7 H (up.Yb x.data):=by
 unfold yE;simp only;rw[if_neg (by simp[h]),if_neg (by simp[h2]),if_neg (by omega),if_neg (by simp[h4]),if_neg (by simp[h5,h6])]
end
end tr
end Go.Proofs.YtpcmilhjpmlbpaaGreatDoor
