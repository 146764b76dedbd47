import Derived.Test.YtpcmilhjpmlbpaaGreatDoorQRzF
set_option maxRecDepth 100000
set_option maxHeartbeats 4000000
namespace Go.Proofs.YtpcmilhjpmlbpaaGreatDoor
open Go.RowKit Go.Shelf nm od
namespace wi
def inB (v t:Int):Bool:=decide (0<=v/\v<=t)
theorem in_t {v t:Int}(h:inB v t=true):0<=v/\v<=t:=of_decide_eq_true h
def jR (x:Rec):Bool:=decide (x.data.size=0) && (decide (x.cls=254) || decide (x.cls=255))
def qP (x:Rec):Bool:=
 qo x.owner && inB x.typ 65535 && inB x.cls 65535 && inB x.ttl 4294967295 &&
  (if x.typ=41 then decide (x.data.size<=65535) else(jR x || decide (dt.jh x.typ x.data=0)))
theorem bad_name {x:Rec}(h:qo x.owner=false):qP x=false:=by simp[qP,h]
theorem bad_typ {x:Rec}(h:inB x.typ 65535=false):qP x=false:=by simp[qP,h]
theorem bad_cls {x:Rec}(h:inB x.cls 65535=false):qP x=false:=by simp[qP,h]
theorem bad_ttl {x:Rec}(h:inB x.ttl 4294967295=false):qP x=false:=by simp[qP,h]
theorem opt {x:Rec}(h0:qo x.owner=true)(h1:inB x.typ 65535=true)(h2:inB x.cls 65535=true)(h3:inB x.ttl 4294967295=true)(h4:x.typ=41):qP x=decide (x.data.size<=65535):=by
 unfold qP;rw[h0,h1,h2,h3,if_pos h4];rfl
theorem rest {x:Rec}(h0:qo x.owner=true)(h1:inB x.typ 65535=true)(h2:inB x.cls 65535=true)(h3:inB x.ttl 4294967295=true)(h4:x.typ≠41):qP x=(jR x || decide (dt.jh x.typ x.data=0)):=by
 unfold qP;rw[h0,h1,h2,h3,if_neg h4];rfl
end wi
theorem Jy (v t:Int)(w:World):Calls Tryz.prog 65 #[.int .i64 v,.int .i64 t] w λe w'=>e= .returned (.bool (wi.inB v t))/\w=w':=by
 by_cases h0:0<=v
 ·have d0:decide (0<=v)=true:=gF h0;by_cases h1:v<=t
  ·have d1:decide (v<=t)=true:=gF h1;have HR:=qe (show wi.inB v t=true from gF ⟨h0,h1⟩)
   go_enter Tryz.func65,Tryz.ntmps65
   go_wp2_with fail;go_ret;exact⟨qI HR.out.symm,rfl⟩
  ·have d1:decide (v<=t)=false:=gp h1;have HR:=qe (show wi.inB v t=false from gp λh=>h1 h.2)
   go_enter Tryz.func65,Tryz.ntmps65
   go_wp2_with fail;go_ret;exact⟨qI HR.out.symm,rfl⟩
 ·have d0:decide (0<=v)=false:=gp h0;have HR:=qe (show wi.inB v t=false from gp λh=>h0 h.1)
  go_enter Tryz.func65,Tryz.ntmps65
  go_wp2_with fail;go_ret;exact⟨qI HR.out.symm,rfl⟩
theorem KL (x:Rec)(w:World):Calls Tryz.prog 66 #[yf x] w λe w'=>e= .returned (.bool (wi.qP x))/\Below w.heap.size w w':=by
 obtain⟨w1,hw1⟩:=yM (w.alloc (.cells (recC x).toArray 80));obtain⟨hB1,hs1,hx1⟩:=zf w w1 x hw1;have hlt1:w.heap.size<w1.heap.size:=by omega
 have HS1:=qe hs1;clear hs1;obtain⟨p0,p1,p2,p3,p4⟩:=id hx1;have HW1:=qe hw1;have HB1:=qe hB1;have HX1:=qe hx1;clear hw1 hB1 hx1
 go_enter Tryz.func66,Tryz.ntmps66
 go_upto_region 1 with fail;rw[<- HW1.out];go_wp2_with fail;refine(zy _ _).mono ?_;rintro e w2 ⟨rfl,hB2⟩;have HX2:=qe (HX1.out.keep (hB2.block w.heap.size hlt1));have HB2:=qe (gm HB1.out hB2);have hlt2:w.heap.size<w2.heap.size:=gN hlt1 hB2.size;clear hB2 p0 p1 p2 p3 p4;obtain⟨p0,p1,p2,p3,p4⟩:=id HX2.out
 cases hc:qo x.owner
 ·have hr:=wi.bad_name hc;rw[Yr];clear hc;have HR:=qe hr;clear hr;go_wp2_with fail;go_ret;exact⟨qI HR.out.symm,HB2.out⟩
 ·rw[vR];have HC:=qe hc;clear hc;go_wp2_with fail;refine(Jy _ _ _).mono ?_;rintro e w3 ⟨rfl,rfl⟩;obtain⟨b3,hb3⟩:=yM (wi.inB x.typ 65535);rw[<- hb3]
  cases b3
  ·have hr:=wi.bad_typ hb3.symm;clear hb3;have HR:=qe hr;clear hr;go_wp2_with fail;go_ret;exact⟨qI HR.out.symm,HB2.out⟩
  have HI1:=qe hb3.symm;clear hb3;go_wp2_with fail;refine(Jy _ _ _).mono ?_;rintro e w4 ⟨rfl,rfl⟩;obtain⟨b4,hb4⟩:=yM (wi.inB x.cls 65535);rw[<- hb4]
  cases b4
  ·have hr:=wi.bad_cls hb4.symm;clear hb4;have HR:=qe hr;clear hr;go_wp2_with fail;go_ret;exact⟨qI HR.out.symm,HB2.out⟩
  have HI2:=qe hb4.symm;clear hb4;go_wp2_with fail;refine(Jy _ _ _).mono ?_;rintro e w5 ⟨rfl,rfl⟩;obtain⟨b5,hb5⟩:=yM (wi.inB x.ttl 4294967295);rw[<- hb5]
  cases b5
  ·have hr:=wi.bad_ttl hb5.symm;clear hb5;have HR:=qe hr;clear hr;go_wp2_with fail;go_ret;exact⟨qI HR.out.symm,HB2.out⟩
  have HI3:=qe hb5.symm;clear hb5;by_cases k4:x.typ=41
  ·have d4:(x.typ == 41)=true:=by rw[Hz];exact k4
   have hr:=wi.opt HC.out HI1.out HI2.out HI3.out k4;clear k4;by_cases k5:x.data.size<=65535
   ·have d5:decide ((x.data.size:Int)<=65535)=true:=gF (by omega);rw[gF k5]at hr;clear k5;have HR:=qe hr;clear hr;go_wp2_with fail;go_ret;exact⟨qI HR.out.symm,HB2.out⟩
   ·have d5:decide ((x.data.size:Int)<=65535)=false:=gp (by omega);rw[gp k5]at hr;clear k5;have HR:=qe hr;clear hr;go_wp2_with fail;go_ret;exact⟨qI HR.out.symm,HB2.out⟩
  ·have d4:(x.typ == 41)=false:=by rw[gG];exact k4
   have hr0:=wi.rest HC.out HI1.out HI2.out HI3.out k4;clear k4;have HR0:=qe hr0;by_cases k5:x.data.size=0
   ·have d5:=yR k5;by_cases k6:x.cls=254
    ·have d6:(x.cls == 254)=true:=by rw[Hz];exact k6
     have hr:wi.qP x=true:=by rw[HR0.out,wi.jR,gF k5,gF k6];rfl
     clear hr0 k5 k6;have HR:=qe hr;clear hr;go_wp2_with fail;go_ret;exact⟨qI HR.out.symm,HB2.out⟩
    ·have d6:(x.cls == 254)=false:=by rw[gG];exact k6
     by_cases k7:x.cls=255
     ·have d7:(x.cls == 255)=true:=by rw[Hz];exact k7
      have hr:wi.qP x=true:=by rw[HR0.out,wi.jR,gF k5,gF k7];simp
      clear hr0 k5 k6 k7;have HR:=qe hr;clear hr;go_wp2_with fail;go_ret;exact⟨qI HR.out.symm,HB2.out⟩
     ·have d7:(x.cls == 255)=false:=by rw[gG];exact k7
      have HEB:=qe (show wi.jR x=false by rw[wi.jR,gp k6,gp k7];simp);clear hr0 k5 k6 k7;go_wp2_with fail;refine(vC _ _ _).mono ?_;rintro e w3 ⟨rfl,hB3⟩;have HB3:=qe (gm HB2.out hB3);clear hB3 p0 p1 p2 p3 p4;by_cases t0:dt.jh x.typ x.data=0
      ·have e0:(dt.jh x.typ x.data == 0)=true:=by rw[Hz];exact t0
       have hr:wi.qP x=true:=by rw[HR0.out,gF t0];simp
       have T0:=qe t0;clear t0;have HR:=qe hr;clear hr;go_wp2_with fail;go_ret;exact⟨qI HR.out.symm,HB3.out⟩
      ·have e0:(dt.jh x.typ x.data == 0)=false:=by rw[gG];exact t0
       have hr:wi.qP x=false:=by rw[HR0.out,gp t0,HEB.out];rfl
       have T0:=qe t0;clear t0;have HR:=qe hr;clear hr;go_wp2_with fail;go_ret;exact⟨qI HR.out.symm,HB3.out⟩
   ·have d5:=jq k5;have HEB:=qe (show wi.jR x=false by rw[wi.jR,gp k5];rfl);clear hr0 k5;go_wp2_with fail;refine(vC _ _ _).mono ?_;rintro e w3 ⟨rfl,hB3⟩;have HB3:=qe (gm HB2.out hB3);clear hB3 p0 p1 p2 p3 p4;by_cases t0:dt.jh x.typ x.data=0
    ·have e0:(dt.jh x.typ x.data == 0)=true:=by rw[Hz];exact t0
     have hr:wi.qP x=true:=by rw[HR0.out,gF t0];simp
     have T0:=qe t0;clear t0;have HR:=qe hr;clear hr;go_wp2_with fail;go_ret;exact⟨qI HR.out.symm,HB3.out⟩
    ·have e0:(dt.jh x.typ x.data == 0)=false:=by rw[gG];exact t0
     have hr:wi.qP x=false:=by rw[HR0.out,gp t0,HEB.out];rfl
     have T0:=qe t0;clear t0;have HR:=qe hr;clear hr;go_wp2_with fail;go_ret;exact⟨qI HR.out.symm,HB3.out⟩
theorem rempty_any (x:Rec)(w:World):Calls Tryz.prog 107 #[yf x] w λe w'=>e= .returned (.bool (wi.jR x))/\Below w.heap.size w w':=by
 have hB:=qe ((gJ _ w).alloc (gI _) (.cells (recC x).toArray 80));by_cases k5:x.data.size=0
 ·have d5:=yR k5;by_cases k6:x.cls=254
  ·have d6:(x.cls == 254)=true:=by rw[Hz];exact k6
   have HR:=qe (show wi.jR x=true by rw[wi.jR,gF k5,gF k6];rfl);clear k5 k6
   go_enter Tryz.func107,Tryz.ntmps107
   go_wp2_with fail;go_ret;exact⟨qI HR.out.symm,hB.out⟩
  ·have d6:(x.cls == 254)=false:=by rw[gG];exact k6
   by_cases k7:x.cls=255
   ·have d7:(x.cls == 255)=true:=by rw[Hz];exact k7
    have HR:=qe (show wi.jR x=true by rw[wi.jR,gF k5,gF k7];simp);clear k5 k6 k7
    go_enter Tryz.func107,Tryz.ntmps107
    go_wp2_with fail;go_ret;exact⟨qI HR.out.symm,hB.out⟩
   ·have d7:(x.cls == 255)=false:=by rw[gG];exact k7
    have HR:=qe (show wi.jR x=false by rw[wi.jR,gp k6,gp k7];simp);clear k5 k6 k7
    go_enter Tryz.func107,Tryz.ntmps107
    go_wp2_with fail;go_ret;exact⟨qI HR.out.symm,hB.out⟩
 ·have d5:=jq k5;have HR:=qe (show wi.jR x=false by rw[wi.jR,gp k5];rfl);clear k5
  go_enter Tryz.func107,Tryz.ntmps107
  go_wp2_with fail;go_ret;exact⟨qI HR.out.symm,hB.out⟩
theorem Jl (x:Rec)(hn:x.owner.size<=1099511627776)(w:World):Calls Tryz.prog 72 #[yf x] w λe w'=>e= .returned (.bool (wi.qP x))/\Below w.heap.size w w':=by
 obtain⟨w1,hw1⟩:=yM (w.alloc (.cells (recC x).toArray 80));obtain⟨hB1,hs1,hx1⟩:=zf w w1 x hw1;have hlt1:w.heap.size<w1.heap.size:=by omega
 have HS1:=qe hs1;clear hs1;obtain⟨p0,p1,p2,p3,p4⟩:=id hx1;have HW1:=qe hw1;have HB1:=qe hB1;have HX1:=qe hx1;clear hw1 hB1 hx1
 go_enter Tryz.func72,Tryz.ntmps72
 go_upto_region 1 with fail;rw[<- HW1.out];go_wp2_with fail;refine(zu _ hn _).mono ?_;rintro e w2 ⟨rfl,hB2⟩;have HX2:=qe (HX1.out.keep (hB2.block w.heap.size hlt1));have HB2:=qe (gm HB1.out hB2);have hlt2:w.heap.size<w2.heap.size:=gN hlt1 hB2.size;clear hB2 p0 p1 p2 p3 p4;obtain⟨p0,p1,p2,p3,p4⟩:=id HX2.out
 cases hc:qo x.owner
 ·have hr:=wi.bad_name hc;clear hc;have HR:=qe hr;clear hr;go_wp2_with fail;go_ret;exact⟨qI HR.out.symm,HB2.out⟩
 have HC:=qe hc;clear hc;by_cases l1:x.typ<0
 ·have d1:decide (x.typ<0)=true:=gF l1;have hr:=wi.bad_typ (x:=x) (gp λh=>by omega);clear l1;have HR:=qe hr;clear hr;go_wp2_with fail;go_ret;exact⟨qI HR.out.symm,HB2.out⟩
 have d1:decide (x.typ<0)=false:=gp l1;by_cases m1:65535<x.typ
 ·have f1:decide (65535<x.typ)=true:=gF m1;have hr:=wi.bad_typ (x:=x) (gp λh=>by omega);clear l1 m1;have HR:=qe hr;clear hr;go_wp2_with fail;go_ret;exact⟨qI HR.out.symm,HB2.out⟩
 have f1:decide (65535<x.typ)=false:=gp m1;have HI1:=qe (show wi.inB x.typ 65535=true from gF ⟨by omega,by omega⟩);clear l1 m1;by_cases l2:x.cls<0
 ·have d2:decide (x.cls<0)=true:=gF l2;have hr:=wi.bad_cls (x:=x) (gp λh=>by omega);clear l2;have HR:=qe hr;clear hr;go_wp2_with fail;go_ret;exact⟨qI HR.out.symm,HB2.out⟩
 have d2:decide (x.cls<0)=false:=gp l2;by_cases m2:65535<x.cls
 ·have f2:decide (65535<x.cls)=true:=gF m2;have hr:=wi.bad_cls (x:=x) (gp λh=>by omega);clear l2 m2;have HR:=qe hr;clear hr;go_wp2_with fail;go_ret;exact⟨qI HR.out.symm,HB2.out⟩
 have f2:decide (65535<x.cls)=false:=gp m2;have HI2:=qe (show wi.inB x.cls 65535=true from gF ⟨by omega,by omega⟩);clear l2 m2;by_cases l3:x.ttl<0
 ·have d3:decide (x.ttl<0)=true:=gF l3;have hr:=wi.bad_ttl (x:=x) (gp λh=>by omega);clear l3;have HR:=qe hr;clear hr;go_wp2_with fail;go_ret;exact⟨qI HR.out.symm,HB2.out⟩
 have d3:decide (x.ttl<0)=false:=gp l3;by_cases m3:4294967295<x.ttl
 ·have f3:decide (4294967295<x.ttl)=true:=gF m3;have hr:=wi.bad_ttl (x:=x) (gp λh=>by omega);clear l3 m3;have HR:=qe hr;clear hr;go_wp2_with fail;go_ret;exact⟨qI HR.out.symm,HB2.out⟩
 have f3:decide (4294967295<x.ttl)=false:=gp m3;have HI3:=qe (show wi.inB x.ttl 4294967295=true from gF ⟨by omega,by omega⟩);clear l3 m3;by_cases k4:x.typ=41
 ·have d4:(x.typ == 41)=true:=by rw[Hz];exact k4
  have hr:=wi.opt HC.out HI1.out HI2.out HI3.out k4;clear k4;by_cases k5:x.data.size<=65535
  ·have d5:decide ((x.data.size:Int)<=65535)=true:=gF (by omega);rw[gF k5]at hr;clear k5;have HR:=qe hr;clear hr;go_wp2_with fail;go_ret;exact⟨qI HR.out.symm,HB2.out⟩
  ·have d5:decide ((x.data.size:Int)<=65535)=false:=gp (by omega);rw[gp k5]at hr;clear k5;have HR:=qe hr;clear hr;go_wp2_with fail;go_ret;exact⟨qI HR.out.symm,HB2.out⟩
 ·have d4:(x.typ == 41)=false:=by rw[gG];exact k4
  have hr0:=wi.rest HC.out HI1.out HI2.out HI3.out k4;have HR0:=qe hr0;clear k4 hr0;go_wp2_with fail;refine(rempty_any _ _).mono ?_;rintro e w4 ⟨rfl,hB4⟩;have HX4:=qe (HX2.out.keep (hB4.block w.heap.size hlt2));have HB2:=qe (gm HB2.out hB4);clear hB4 p0 p1 p2 p3 p4;obtain⟨p0,p1,p2,p3,p4⟩:=id HX4.out;obtain⟨eb,heb⟩:=yM (wi.jR x);rw[<- heb]
  cases eb
  ·have HEB:=qe heb.symm;clear heb;go_wp2_with fail;refine(uB _ _ _).mono ?_;rintro e w3 ⟨rfl,hB3⟩;have HB3:=qe (gm HB2.out hB3);clear hB3 p0 p1 p2 p3 p4;by_cases t0:dt.jh x.typ x.data=0
   ·have e0:(dt.jh x.typ x.data == 0)=true:=by rw[Hz];exact t0
    have hr:wi.qP x=true:=by rw[HR0.out,gF t0];simp
    have T0:=qe t0;clear t0;have HR:=qe hr;clear hr;go_wp2_with fail;go_ret;exact⟨qI HR.out.symm,HB3.out⟩
   ·have e0:(dt.jh x.typ x.data == 0)=false:=by rw[gG];exact t0
    have hr:wi.qP x=false:=by rw[HR0.out,gp t0,HEB.out];rfl
    have T0:=qe t0;clear t0;have HR:=qe hr;clear hr;go_wp2_with fail;go_ret;exact⟨qI HR.out.symm,HB3.out⟩
  ·have hr:wi.qP x=true:=by rw[HR0.out,<- heb];rfl
   clear heb;have HR:=qe hr;clear hr;go_wp2_with fail;go_ret;exact⟨qI HR.out.symm,HB2.out⟩
namespace up
open zn (qJ yh yJ xX)
def besideB (t:Int):Bool:=decide (t=46) || decide (t=47)
def QQ (d:ByteArray):Int:=(dt.jO (d.extract (d.size-20) (d.size-16)) (d.extract (d.size-20) (d.size-16)).size:Nat)
def zU (a b:Int):Bool:=decide (1<=(a-b) % 4294967296/\(a-b) % 4294967296<=2147483647)
def addL (qf:ByteArray)(l:List Rec)(x:Rec):List Rec:=
 if x.typ=6 then l.map λy=>if y.typ=6/\qG x.owner qf=true/\zU (QQ x.data) (QQ y.data)=true then x else y
 else if l.any (λy=>qG y.owner x.owner && ((decide (x.typ=5) && decide (y.typ≠5) && !besideB y.typ) || (decide (x.typ≠5) && decide (y.typ=5) && !besideB x.typ))) then l
 else((l.filter λy=>!(xX x y || (decide (x.typ=5) && decide (y.typ=5) && qG x.owner y.owner))).map λy=>if y.typ=x.typ/\x.typ≠46/\qG x.owner y.owner=true then { y with ttl:=x.ttl} else y) ++ [x]
end up
end Go.Proofs.YtpcmilhjpmlbpaaGreatDoor
namespace Go.Proofs.YtpcmilhjpmlbpaaGreatDoor
open Go.RowKit Go.Shelf nm od
namespace tr
open zn (qJ yh)
structure Zn where
 ap:ByteArray
 l:List Rec
def Js:Rec:=⟨ByteArray.empty,0,0,0,ByteArray.empty⟩
def zU (a b:Int):Bool:=decide (0<=a/\0<=b/\a<=4294967295/\b<=4294967295) && up.zU a b
def qZ (z:Zn):Rec:=(qJ z.l (qy z.ap,6)).headD Js
def yD (z:Zn):Int:=zn.ZB (qZ z).data
def q9 (l:List Rec):List Rec:=l.filter λr=>!decide (r.typ=6)
def Zd (l m:List Rec):List Rec:=l.filter λr=>!decide (r∈m)
def yK (z:Zn):List Rec:=qZ z :: (q9 z.l ++ [qZ z])
def zh (H:List Zn)(i:Nat):Zn:=H.getD i ⟨ByteArray.empty,[]⟩
def qR (H:List Zn):Zn:=zh H (H.length-1)
def YT (a b:Zn):List Rec:=(([qZ a] ++ Zd (q9 a.l) (q9 b.l)) ++ [qZ b]) ++ Zd (q9 b.l) (q9 a.l)
def jb (H:List Zn)(k n:Nat):List Rec:=(List.range n).flatMap λi=>YT (zh H (k+i)) (zh H (k+i+1))
def yY (H:List Zn)(k:Nat):List Rec:=([qZ (qR H)] ++ jb H k (H.length-1-k)) ++ [qZ (qR H)]
theorem Jk (H:List Zn)(k n:Nat):jb H k (n+1)=jb H k n ++ YT (zh H (k+n)) (zh H (k+n+1)):=by
 unfold jb;rw[List.range_succ,List.flatMap_append,List.flatMap_singleton]
theorem Qd {H:List Zn}{i:Nat}(h:i<H.length):zh H i=H[i]:=by
 unfold zh;rw[List.getD_eq_getElem?_getD,List.getElem?_eq_getElem h];rfl
theorem getZ_drop (H:List Zn)(f i:Nat):zh (H.drop f) i=zh H (f+i):=by
 unfold zh;rw[List.getD_eq_getElem?_getD,List.getD_eq_getElem?_getD,List.getElem?_drop]
def Zi (h:List Zn)(z:Zn):Int:=if qG z.ap (qR h).ap=false then 5 else if zU (yD z) (yD (qR h))=false then 30 else 0
def addL (h:List Zn)(z:Zn):List Zn:=(h ++ [z]).drop ((h ++ [z]).length-8)
def Ok (z:Zn):Prop:=zn.Valid z.ap z.l
theorem UR {z:Zn}(hv:Ok z){r:Rec}(hr:r∈z.l):r.typ=6↔yh r=(qy z.ap,6):=by
 constructor
 ·intro h6;obtain⟨_,h2,_⟩:=zn.vK hv.rules;have:=(zn.zP (hv.named r hr) hv.ap).1 ((zn.ZA.1 h2).2 r hr h6);unfold yh;rw[this,h6]
 ·intro h;exact congrArg Prod.snd h
theorem pair_len {l:List Rec}(h:l.Pairwise λa b=>¬(a.typ=6/\b.typ=6))(h6:∀r∈l,r.typ=6):l.length<=1:=by
 match l,h with
 | [],_=>simp
 | [a],_=>simp
 | a :: b :: t,h=>
   have:=(List.pairwise_cons.1 h).1 b (by simp);exact absurd ⟨h6 a (by simp),h6 b (by simp)⟩ this
theorem rows_six {z:Zn}(hv:Ok z):qJ z.l (qy z.ap,6)=z.l.filter λr=>decide (r.typ=6):=by
 unfold qJ;refine List.filter_congr λr hr=>?_;have:=UR hv hr;by_cases h6:r.typ=6
 ·have h2:=this.1 h6;simp[h6,h2]
 ·have h2:¬yh r=(qy z.ap,6):=λh=>h6 (this.2 h);simp[h6,h2]
theorem yx {z:Zn}(hv:Ok z):qJ z.l (qy z.ap,6)= [qZ z]/\qZ z∈z.l/\(qZ z).typ=6/\dt.jh 6 (qZ z).data=0:=by
 obtain⟨_,h2,_⟩:=zn.vK hv.rules;have hp:=(zn.ZA.1 h2).1;obtain⟨r,hr,h6,-,-⟩:=zn.soa_rec hv;have hlen:(qJ z.l (qy z.ap,6)).length<=1:=by
  rw[rows_six hv];exact pair_len (hp.sublist List.filter_sublist) λr hr=>by simpa using (List.mem_filter.1 hr).2
 have hm:r∈qJ z.l (qy z.ap,6):=zn.kD.2 ⟨hr,(UR hv hr).1 h6⟩;have he:qJ z.l (qy z.ap,6)= [r]:=by
  match hh:qJ z.l (qy z.ap,6),hlen,hm with
  | [a],_,hm=>rw[List.mem_singleton.1 hm]
  | a :: b :: t,hl,_=>simp at hl
 have hs:qZ z=r:=by unfold qZ;rw[he];rfl
 rw[hs];refine⟨he,hr,h6,?_⟩;have:=(hv.each r hr).2.1;unfold zn.jT at this;simp only[Bool.not_eq_false',gX,H7]at this;rw[<- h6];exact this.2
theorem Q8 {z:Zn}(hv:Ok z):20<=(qZ z).data.size/\(qZ z).data.size<=65535:=dt.Q8 (yx hv).2.2.2
theorem num_nat {d:ByteArray}(h:20<=d.size):∃n:Nat,up.QQ d=(n:Int)/\n<4294967296:=by
 refine⟨_,rfl,?_⟩;have hs:(d.extract (d.size-20) (d.size-16)).size=4:=by rw[Hq];omega
 rw[hs];exact gN (dt.Um _ 4) (by decide)
theorem num_serial {d:ByteArray}(h:20<=d.size):up.QQ d=zn.ZB d:=by
 unfold up.QQ zn.ZB;have hs:(d.extract (d.size-20) (d.size-16)).size=4:=by rw[Hq];omega
 rw[hs]
theorem ser_num {z:Zn}(hv:Ok z):yD z=up.QQ (qZ z).data:=(num_serial (Q8 hv).1).symm
end tr
end Go.Proofs.YtpcmilhjpmlbpaaGreatDoor
