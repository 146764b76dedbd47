import Derived.Test.YtpcmilhjpmlbpaaGreatDoorQRzF
set_option maxRecDepth 100000
set_option maxHeartbeats 4000000
namespace Go.Proofs.YtpcmilhjpmlbpaaGreatDoor
open Go.RowKit Go.Shelf nm od
namespace wi
def inB (v t:Int):Bool:=decide (0≤v∧v≤t)
theorem in_t {v t:Int}(h:inB v t=true):0≤v∧v≤t:=of_decide_eq_true h
def jT (x:Rec):Bool:=decide (x.data.size=0) && (decide (x.cls=254) || decide (x.cls=255))
def qR (x:Rec):Bool:=
 qo x.owner && inB x.typ 65535 && inB x.cls 65535 && inB x.ttl 4294967295 &&
  (if x.typ=41 then decide (x.data.size≤65535) else(jT x || decide (dt.jd x.typ x.data=0)))
theorem bad_name {x:Rec}(h:qo x.owner=false):qR x=false:=by simp[qR,h]
theorem bad_typ {x:Rec}(h:inB x.typ 65535=false):qR x=false:=by simp[qR,h]
theorem bad_cls {x:Rec}(h:inB x.cls 65535=false):qR x=false:=by simp[qR,h]
theorem bad_ttl {x:Rec}(h:inB x.ttl 4294967295=false):qR x=false:=by simp[qR,h]
theorem opt {x:Rec}(h0:qo x.owner=true)(h1:inB x.typ 65535=true)(h2:inB x.cls 65535=true)(h3:inB x.ttl 4294967295=true)(h4:x.typ=41):qR x=decide (x.data.size≤65535):=by
 unfold qR;rw[h0,h1,h2,h3,if_pos h4];rfl
theorem rest {x:Rec}(h0:qo x.owner=true)(h1:inB x.typ 65535=true)(h2:inB x.cls 65535=true)(h3:inB x.ttl 4294967295=true)(h4:x.typ≠41):qR x=(jT x || decide (dt.jd x.typ x.data=0)):=by
 unfold qR;rw[h0,h1,h2,h3,if_neg h4];rfl
end wi
theorem Jj (v t:Int)(w:World):Calls Tryz.prog 65 #[.int .i64 v,.int .i64 t] w fun e w'=>e= .returned (.bool (wi.inB v t))∧w=w':=by
 by_cases h0:0≤v
 ·have d0:decide (0≤v)=true:=decide_eq_true h0;by_cases h1:v≤t
  ·have d1:decide (v≤t)=true:=decide_eq_true h1;have HR:=qe (show wi.inB v t=true from decide_eq_true ⟨h0,h1⟩)
   go_enter Tryz.func65,Tryz.ntmps65
   go_wp2_with fail;go_ret;exact⟨qH HR.out.symm,rfl⟩
  ·have d1:decide (v≤t)=false:=decide_eq_false h1;have HR:=qe (show wi.inB v t=false from decide_eq_false fun h=>h1 h.2)
   go_enter Tryz.func65,Tryz.ntmps65
   go_wp2_with fail;go_ret;exact⟨qH HR.out.symm,rfl⟩
 ·have d0:decide (0≤v)=false:=decide_eq_false h0;have HR:=qe (show wi.inB v t=false from decide_eq_false fun h=>h0 h.1)
  go_enter Tryz.func65,Tryz.ntmps65
  go_wp2_with fail;go_ret;exact⟨qH HR.out.symm,rfl⟩
theorem Ku (x:Rec)(w:World):Calls Tryz.prog 66 #[ym x] w fun e w'=>e= .returned (.bool (wi.qR x))∧Below w.heap.size w w':=by
 obtain⟨w1,hw1⟩:∃X,X=w.alloc (.cells (recC x).toArray 80):=⟨_,rfl⟩;obtain⟨hB1,hs1,hx1⟩:=qY w w1 x hw1;have hlt1:w.heap.size<w1.heap.size:=by omega
 have HS1:=qe hs1;clear hs1;obtain⟨p0,p1,p2,p3,p4⟩:=id hx1;have HW1:=qe hw1;have HB1:=qe hB1;have HX1:=qe hx1;clear hw1 hB1 hx1
 go_enter Tryz.func66,Tryz.ntmps66
 go_upto_region 1 with fail;rw[← HW1.out];go_wp2_with fail;refine(zt _ _).mono ?_;rintro e w2 ⟨rfl,hB2⟩;have HX2:=qe (HX1.out.keep (hB2.block w.heap.size hlt1));have HB2:=qe (HB1.out.trans (hB2.mono HB1.out.size));have hlt2:w.heap.size<w2.heap.size:=Nat.lt_of_lt_of_le hlt1 hB2.size;clear hB2 p0 p1 p2 p3 p4;obtain⟨p0,p1,p2,p3,p4⟩:=id HX2.out
 cases hc:qo x.owner
 ·have hr:=wi.bad_name hc;rw[Yf];clear hc;have HR:=qe hr;clear hr;go_wp2_with fail;go_ret;exact⟨qH HR.out.symm,HB2.out⟩
 ·rw[vK];have HC:=qe hc;clear hc;go_wp2_with fail;refine(Jj _ _ _).mono ?_;rintro e w3 ⟨rfl,rfl⟩;obtain⟨b3,hb3⟩:∃b,b=wi.inB x.typ 65535:=⟨_,rfl⟩;rw[← hb3]
  cases b3
  ·have hr:=wi.bad_typ hb3.symm;clear hb3;have HR:=qe hr;clear hr;go_wp2_with fail;go_ret;exact⟨qH HR.out.symm,HB2.out⟩
  have HI1:=qe hb3.symm;clear hb3;go_wp2_with fail;refine(Jj _ _ _).mono ?_;rintro e w4 ⟨rfl,rfl⟩;obtain⟨b4,hb4⟩:∃b,b=wi.inB x.cls 65535:=⟨_,rfl⟩;rw[← hb4]
  cases b4
  ·have hr:=wi.bad_cls hb4.symm;clear hb4;have HR:=qe hr;clear hr;go_wp2_with fail;go_ret;exact⟨qH HR.out.symm,HB2.out⟩
  have HI2:=qe hb4.symm;clear hb4;go_wp2_with fail;refine(Jj _ _ _).mono ?_;rintro e w5 ⟨rfl,rfl⟩;obtain⟨b5,hb5⟩:∃b,b=wi.inB x.ttl 4294967295:=⟨_,rfl⟩;rw[← hb5]
  cases b5
  ·have hr:=wi.bad_ttl hb5.symm;clear hb5;have HR:=qe hr;clear hr;go_wp2_with fail;go_ret;exact⟨qH HR.out.symm,HB2.out⟩
  have HI3:=qe hb5.symm;clear hb5;by_cases k4:x.typ=41
  ·have d4:(x.typ == 41)=true:=by rw[beq_iff_eq];exact k4
   have hr:=wi.opt HC.out HI1.out HI2.out HI3.out k4;clear k4;by_cases k5:x.data.size≤65535
   ·have d5:decide ((x.data.size:Int)≤65535)=true:=decide_eq_true (by omega);rw[decide_eq_true k5]at hr;clear k5;have HR:=qe hr;clear hr;go_wp2_with fail;go_ret;exact⟨qH HR.out.symm,HB2.out⟩
   ·have d5:decide ((x.data.size:Int)≤65535)=false:=decide_eq_false (by omega);rw[decide_eq_false k5]at hr;clear k5;have HR:=qe hr;clear hr;go_wp2_with fail;go_ret;exact⟨qH HR.out.symm,HB2.out⟩
  ·have d4:(x.typ == 41)=false:=by rw[beq_eq_false_iff_ne];exact k4
   have hr0:=wi.rest HC.out HI1.out HI2.out HI3.out k4;clear k4;have HR0:=qe hr0;by_cases k5:x.data.size=0
   ·have d5:=yQ k5;by_cases k6:x.cls=254
    ·have d6:(x.cls == 254)=true:=by rw[beq_iff_eq];exact k6
     have hr:wi.qR x=true:=by rw[HR0.out,wi.jT,decide_eq_true k5,decide_eq_true k6];rfl
     clear hr0 k5 k6;have HR:=qe hr;clear hr;go_wp2_with fail;go_ret;exact⟨qH HR.out.symm,HB2.out⟩
    ·have d6:(x.cls == 254)=false:=by rw[beq_eq_false_iff_ne];exact k6
     by_cases k7:x.cls=255
     ·have d7:(x.cls == 255)=true:=by rw[beq_iff_eq];exact k7
      have hr:wi.qR x=true:=by rw[HR0.out,wi.jT,decide_eq_true k5,decide_eq_true k7];simp
      clear hr0 k5 k6 k7;have HR:=qe hr;clear hr;go_wp2_with fail;go_ret;exact⟨qH HR.out.symm,HB2.out⟩
     ·have d7:(x.cls == 255)=false:=by rw[beq_eq_false_iff_ne];exact k7
      have HEB:=qe (show wi.jT x=false by rw[wi.jT,decide_eq_false k6,decide_eq_false k7];simp);clear hr0 k5 k6 k7;go_wp2_with fail;refine(vo _ _ _).mono ?_;rintro e w3 ⟨rfl,hB3⟩;have HB3:=qe (HB2.out.trans (hB3.mono HB2.out.size));clear hB3 p0 p1 p2 p3 p4;by_cases t0:dt.jd x.typ x.data=0
      ·have e0:(dt.jd x.typ x.data == 0)=true:=by rw[beq_iff_eq];exact t0
       have hr:wi.qR x=true:=by rw[HR0.out,decide_eq_true t0];simp
       have T0:=qe t0;clear t0;have HR:=qe hr;clear hr;go_wp2_with fail;go_ret;exact⟨qH HR.out.symm,HB3.out⟩
      ·have e0:(dt.jd x.typ x.data == 0)=false:=by rw[beq_eq_false_iff_ne];exact t0
       have hr:wi.qR x=false:=by rw[HR0.out,decide_eq_false t0,HEB.out];rfl
       have T0:=qe t0;clear t0;have HR:=qe hr;clear hr;go_wp2_with fail;go_ret;exact⟨qH HR.out.symm,HB3.out⟩
   ·have d5:=ji k5;have HEB:=qe (show wi.jT x=false by rw[wi.jT,decide_eq_false k5];rfl);clear hr0 k5;go_wp2_with fail;refine(vo _ _ _).mono ?_;rintro e w3 ⟨rfl,hB3⟩;have HB3:=qe (HB2.out.trans (hB3.mono HB2.out.size));clear hB3 p0 p1 p2 p3 p4;by_cases t0:dt.jd x.typ x.data=0
    ·have e0:(dt.jd x.typ x.data == 0)=true:=by rw[beq_iff_eq];exact t0
     have hr:wi.qR x=true:=by rw[HR0.out,decide_eq_true t0];simp
     have T0:=qe t0;clear t0;have HR:=qe hr;clear hr;go_wp2_with fail;go_ret;exact⟨qH HR.out.symm,HB3.out⟩
    ·have e0:(dt.jd x.typ x.data == 0)=false:=by rw[beq_eq_false_iff_ne];exact t0
     have hr:wi.qR x=false:=by rw[HR0.out,decide_eq_false t0,HEB.out];rfl
     have T0:=qe t0;clear t0;have HR:=qe hr;clear hr;go_wp2_with fail;go_ret;exact⟨qH HR.out.symm,HB3.out⟩
theorem rempty_any (x:Rec)(w:World):Calls Tryz.prog 107 #[ym x] w fun e w'=>e= .returned (.bool (wi.jT x))∧Below w.heap.size w w':=by
 have hB:=qe ((Below.refl _ w).alloc (Nat.le_refl _) (.cells (recC x).toArray 80));by_cases k5:x.data.size=0
 ·have d5:=yQ k5;by_cases k6:x.cls=254
  ·have d6:(x.cls == 254)=true:=by rw[beq_iff_eq];exact k6
   have HR:=qe (show wi.jT x=true by rw[wi.jT,decide_eq_true k5,decide_eq_true k6];rfl);clear k5 k6
   go_enter Tryz.func107,Tryz.ntmps107
   go_wp2_with fail;go_ret;exact⟨qH HR.out.symm,hB.out⟩
  ·have d6:(x.cls == 254)=false:=by rw[beq_eq_false_iff_ne];exact k6
   by_cases k7:x.cls=255
   ·have d7:(x.cls == 255)=true:=by rw[beq_iff_eq];exact k7
    have HR:=qe (show wi.jT x=true by rw[wi.jT,decide_eq_true k5,decide_eq_true k7];simp);clear k5 k6 k7
    go_enter Tryz.func107,Tryz.ntmps107
    go_wp2_with fail;go_ret;exact⟨qH HR.out.symm,hB.out⟩
   ·have d7:(x.cls == 255)=false:=by rw[beq_eq_false_iff_ne];exact k7
    have HR:=qe (show wi.jT x=false by rw[wi.jT,decide_eq_false k6,decide_eq_false k7];simp);clear k5 k6 k7
    go_enter Tryz.func107,Tryz.ntmps107
    go_wp2_with fail;go_ret;exact⟨qH HR.out.symm,hB.out⟩
 ·have d5:=ji k5;have HR:=qe (show wi.jT x=false by rw[wi.jT,decide_eq_false k5];rfl);clear k5
  go_enter Tryz.func107,Tryz.ntmps107
  go_wp2_with fail;go_ret;exact⟨qH HR.out.symm,hB.out⟩
theorem Y7 (x:Rec)(hn:x.owner.size≤1099511627776)(w:World):Calls Tryz.prog 72 #[ym x] w fun e w'=>e= .returned (.bool (wi.qR x))∧Below w.heap.size w w':=by
 obtain⟨w1,hw1⟩:∃X,X=w.alloc (.cells (recC x).toArray 80):=⟨_,rfl⟩;obtain⟨hB1,hs1,hx1⟩:=qY w w1 x hw1;have hlt1:w.heap.size<w1.heap.size:=by omega
 have HS1:=qe hs1;clear hs1;obtain⟨p0,p1,p2,p3,p4⟩:=id hx1;have HW1:=qe hw1;have HB1:=qe hB1;have HX1:=qe hx1;clear hw1 hB1 hx1
 go_enter Tryz.func72,Tryz.ntmps72
 go_upto_region 1 with fail;rw[← HW1.out];go_wp2_with fail;refine(zA _ hn _).mono ?_;rintro e w2 ⟨rfl,hB2⟩;have HX2:=qe (HX1.out.keep (hB2.block w.heap.size hlt1));have HB2:=qe (HB1.out.trans (hB2.mono HB1.out.size));have hlt2:w.heap.size<w2.heap.size:=Nat.lt_of_lt_of_le hlt1 hB2.size;clear hB2 p0 p1 p2 p3 p4;obtain⟨p0,p1,p2,p3,p4⟩:=id HX2.out
 cases hc:qo x.owner
 ·have hr:=wi.bad_name hc;clear hc;have HR:=qe hr;clear hr;go_wp2_with fail;go_ret;exact⟨qH HR.out.symm,HB2.out⟩
 have HC:=qe hc;clear hc;by_cases l1:x.typ<0
 ·have d1:decide (x.typ<0)=true:=decide_eq_true l1;have hr:=wi.bad_typ (x:=x) (decide_eq_false fun h=>by omega);clear l1;have HR:=qe hr;clear hr;go_wp2_with fail;go_ret;exact⟨qH HR.out.symm,HB2.out⟩
 have d1:decide (x.typ<0)=false:=decide_eq_false l1;by_cases m1:65535<x.typ
 ·have f1:decide (65535<x.typ)=true:=decide_eq_true m1;have hr:=wi.bad_typ (x:=x) (decide_eq_false fun h=>by omega);clear l1 m1;have HR:=qe hr;clear hr;go_wp2_with fail;go_ret;exact⟨qH HR.out.symm,HB2.out⟩
 have f1:decide (65535<x.typ)=false:=decide_eq_false m1;have HI1:=qe (show wi.inB x.typ 65535=true from decide_eq_true ⟨by omega,by omega⟩);clear l1 m1;by_cases l2:x.cls<0
 ·have d2:decide (x.cls<0)=true:=decide_eq_true l2;have hr:=wi.bad_cls (x:=x) (decide_eq_false fun h=>by omega);clear l2;have HR:=qe hr;clear hr;go_wp2_with fail;go_ret;exact⟨qH HR.out.symm,HB2.out⟩
 have d2:decide (x.cls<0)=false:=decide_eq_false l2;by_cases m2:65535<x.cls
 ·have f2:decide (65535<x.cls)=true:=decide_eq_true m2;have hr:=wi.bad_cls (x:=x) (decide_eq_false fun h=>by omega);clear l2 m2;have HR:=qe hr;clear hr;go_wp2_with fail;go_ret;exact⟨qH HR.out.symm,HB2.out⟩
 have f2:decide (65535<x.cls)=false:=decide_eq_false m2;have HI2:=qe (show wi.inB x.cls 65535=true from decide_eq_true ⟨by omega,by omega⟩);clear l2 m2;by_cases l3:x.ttl<0
 ·have d3:decide (x.ttl<0)=true:=decide_eq_true l3;have hr:=wi.bad_ttl (x:=x) (decide_eq_false fun h=>by omega);clear l3;have HR:=qe hr;clear hr;go_wp2_with fail;go_ret;exact⟨qH HR.out.symm,HB2.out⟩
 have d3:decide (x.ttl<0)=false:=decide_eq_false l3;by_cases m3:4294967295<x.ttl
 ·have f3:decide (4294967295<x.ttl)=true:=decide_eq_true m3;have hr:=wi.bad_ttl (x:=x) (decide_eq_false fun h=>by omega);clear l3 m3;have HR:=qe hr;clear hr;go_wp2_with fail;go_ret;exact⟨qH HR.out.symm,HB2.out⟩
 have f3:decide (4294967295<x.ttl)=false:=decide_eq_false m3;have HI3:=qe (show wi.inB x.ttl 4294967295=true from decide_eq_true ⟨by omega,by omega⟩);clear l3 m3;by_cases k4:x.typ=41
 ·have d4:(x.typ == 41)=true:=by rw[beq_iff_eq];exact k4
  have hr:=wi.opt HC.out HI1.out HI2.out HI3.out k4;clear k4;by_cases k5:x.data.size≤65535
  ·have d5:decide ((x.data.size:Int)≤65535)=true:=decide_eq_true (by omega);rw[decide_eq_true k5]at hr;clear k5;have HR:=qe hr;clear hr;go_wp2_with fail;go_ret;exact⟨qH HR.out.symm,HB2.out⟩
  ·have d5:decide ((x.data.size:Int)≤65535)=false:=decide_eq_false (by omega);rw[decide_eq_false k5]at hr;clear k5;have HR:=qe hr;clear hr;go_wp2_with fail;go_ret;exact⟨qH HR.out.symm,HB2.out⟩
 ·have d4:(x.typ == 41)=false:=by rw[beq_eq_false_iff_ne];exact k4
  have hr0:=wi.rest HC.out HI1.out HI2.out HI3.out k4;have HR0:=qe hr0;clear k4 hr0;go_wp2_with fail;refine(rempty_any _ _).mono ?_;rintro e w4 ⟨rfl,hB4⟩;have HX4:=qe (HX2.out.keep (hB4.block w.heap.size hlt2));have HB2:=qe (HB2.out.trans (hB4.mono HB2.out.size));clear hB4 p0 p1 p2 p3 p4;obtain⟨p0,p1,p2,p3,p4⟩:=id HX4.out;obtain⟨eb,heb⟩:∃eb,eb=wi.jT x:=⟨_,rfl⟩;rw[← heb]
  cases eb
  ·have HEB:=qe heb.symm;clear heb;go_wp2_with fail;refine(uu _ _ _).mono ?_;rintro e w3 ⟨rfl,hB3⟩;have HB3:=qe (HB2.out.trans (hB3.mono HB2.out.size));clear hB3 p0 p1 p2 p3 p4;by_cases t0:dt.jd x.typ x.data=0
   ·have e0:(dt.jd x.typ x.data == 0)=true:=by rw[beq_iff_eq];exact t0
    have hr:wi.qR x=true:=by rw[HR0.out,decide_eq_true t0];simp
    have T0:=qe t0;clear t0;have HR:=qe hr;clear hr;go_wp2_with fail;go_ret;exact⟨qH HR.out.symm,HB3.out⟩
   ·have e0:(dt.jd x.typ x.data == 0)=false:=by rw[beq_eq_false_iff_ne];exact t0
    have hr:wi.qR x=false:=by rw[HR0.out,decide_eq_false t0,HEB.out];rfl
    have T0:=qe t0;clear t0;have HR:=qe hr;clear hr;go_wp2_with fail;go_ret;exact⟨qH HR.out.symm,HB3.out⟩
  ·have hr:wi.qR x=true:=by rw[HR0.out,← heb];rfl
   clear heb;have HR:=qe hr;clear hr;go_wp2_with fail;go_ret;exact⟨qH HR.out.symm,HB2.out⟩
namespace up
open zn (qI yg yL xU)
def besideB (t:Int):Bool:=decide (t=46) || decide (t=47)
def QI (d:ByteArray):Int:=(dt.jP (d.extract (d.size-20) (d.size-16)) (d.extract (d.size-20) (d.size-16)).size:Nat)
def zR (a b:Int):Bool:=decide (1≤(a-b) % 4294967296∧(a-b) % 4294967296≤2147483647)
def addL (qg:ByteArray)(l:List Rec)(x:Rec):List Rec:=
 if x.typ=6 then l.map fun y=>if y.typ=6∧qF x.owner qg=true∧zR (QI x.data) (QI y.data)=true then x else y
 else if l.any (fun y=>qF y.owner x.owner && ((decide (x.typ=5) && decide (y.typ≠5) && !besideB y.typ) || (decide (x.typ≠5) && decide (y.typ=5) && !besideB x.typ))) then l
 else((l.filter fun y=>!(xU x y || (decide (x.typ=5) && decide (y.typ=5) && qF x.owner y.owner))).map fun y=>if y.typ=x.typ∧x.typ≠46∧qF x.owner y.owner=true then { y with ttl:=x.ttl} else y) ++ [x]
end up
end Go.Proofs.YtpcmilhjpmlbpaaGreatDoor
namespace Go.Proofs.YtpcmilhjpmlbpaaGreatDoor
open Go.RowKit Go.Shelf nm od
namespace tr
open zn (qI yg)
structure Zn where
 ap:ByteArray
 l:List Rec
def noRec:Rec:=⟨ByteArray.empty,0,0,0,ByteArray.empty⟩
def zR (a b:Int):Bool:=decide (0≤a∧0≤b∧a≤4294967295∧b≤4294967295) && up.zR a b
def ze (z:Zn):Rec:=(qI z.l (qx z.ap,6)).headD noRec
def yA (z:Zn):Int:=zn.Zw (ze z).data
def qP (l:List Rec):List Rec:=l.filter fun r=>!decide (r.typ=6)
def kL (l m:List Rec):List Rec:=l.filter fun r=>!decide (r∈m)
def zX (z:Zn):List Rec:=ze z :: (qP z.l ++ [ze z])
def q8 (H:List Zn)(i:Nat):Zn:=H.getD i ⟨ByteArray.empty,[]⟩
def qN (H:List Zn):Zn:=q8 H (H.length-1)
def ZK (a b:Zn):List Rec:=(([ze a] ++ kL (qP a.l) (qP b.l)) ++ [ze b]) ++ kL (qP b.l) (qP a.l)
def zI (H:List Zn)(k n:Nat):List Rec:=(List.range n).flatMap fun i=>ZK (q8 H (k+i)) (q8 H (k+i+1))
def zF (H:List Zn)(k:Nat):List Rec:=([ze (qN H)] ++ zI H k (H.length-1-k)) ++ [ze (qN H)]
theorem Zt (H:List Zn)(k n:Nat):zI H k (n+1)=zI H k n ++ ZK (q8 H (k+n)) (q8 H (k+n+1)):=by
 unfold zI;rw[List.range_succ,List.flatMap_append,List.flatMap_singleton]
theorem uL {H:List Zn}{i:Nat}(h:i<H.length):q8 H i=H[i]:=by
 unfold q8;rw[List.getD_eq_getElem?_getD,List.getElem?_eq_getElem h];rfl
theorem JX (H:List Zn)(f i:Nat):q8 (H.drop f) i=q8 H (f+i):=by
 unfold q8;rw[List.getD_eq_getElem?_getD,List.getD_eq_getElem?_getD,List.getElem?_drop]
theorem steps_drop (H:List Zn)(f:Nat)(hf:f<H.length):zF (H.drop f) 0=zF H f:=by
 have e:qN (H.drop f)=qN H:=by
  unfold qN;rw[JX,List.length_drop]
  congr 1
  omega
 have e2:∀n,zI (H.drop f) 0 n=zI H f n:=fun n=>by
  unfold zI
  congr 1
  funext i
  rw[JX,JX,Nat.zero_add,show f+(i+1)=f+i+1 by omega]
 unfold zF;rw[e,e2,List.length_drop,show H.length-f-1-0=H.length-1-f by omega]
def Ze (h:List Zn)(z:Zn):Int:=if qF z.ap (qN h).ap=false then 5 else if zR (yA z) (yA (qN h))=false then 30 else 0
def addL (h:List Zn)(z:Zn):List Zn:=(h ++ [z]).drop ((h ++ [z]).length-8)
def Ok (z:Zn):Prop:=zn.Valid z.ap z.l
theorem Ux {z:Zn}(hv:Ok z){r:Rec}(hr:r∈z.l):r.typ=6↔yg r=(qx z.ap,6):=by
 constructor
 ·intro h6;obtain⟨_,h2,_⟩:=zn.vG hv.rules;have:=(zn.zM (hv.named r hr) hv.ap).1 ((zn.Zv.1 h2).2 r hr h6);unfold yg;rw[this,h6]
 ·intro h;exact congrArg Prod.snd h
theorem pair_len {l:List Rec}(h:l.Pairwise fun a b=>¬(a.typ=6∧b.typ=6))(h6:∀r∈l,r.typ=6):l.length≤1:=by
 match l,h with
 | [],_=>simp
 | [a],_=>simp
 | a :: b :: t,h=>
   have:=(List.pairwise_cons.1 h).1 b (by simp);exact absurd ⟨h6 a (by simp),h6 b (by simp)⟩ this
theorem rows_six {z:Zn}(hv:Ok z):qI z.l (qx z.ap,6)=z.l.filter fun r=>decide (r.typ=6):=by
 unfold qI;refine List.filter_congr fun r hr=>?_;have:=Ux hv hr;by_cases h6:r.typ=6
 ·have h2:=this.1 h6;simp[h6,h2]
 ·have h2:¬yg r=(qx z.ap,6):=fun h=>h6 (this.2 h);simp[h6,h2]
theorem yM {z:Zn}(hv:Ok z):qI z.l (qx z.ap,6)= [ze z]∧ze z∈z.l∧(ze z).typ=6∧dt.jd 6 (ze z).data=0:=by
 obtain⟨_,h2,_⟩:=zn.vG hv.rules;have hp:=(zn.Zv.1 h2).1;obtain⟨r,hr,h6,-,-⟩:=zn.soa_rec hv;have hlen:(qI z.l (qx z.ap,6)).length≤1:=by
  rw[rows_six hv];exact pair_len (hp.sublist List.filter_sublist) fun r hr=>by simpa using (List.mem_filter.1 hr).2
 have hm:r∈qI z.l (qx z.ap,6):=zn.ko.2 ⟨hr,(Ux hv hr).1 h6⟩;have he:qI z.l (qx z.ap,6)= [r]:=by
  match hh:qI z.l (qx z.ap,6),hlen,hm with
  | [a],_,hm=>rw[List.mem_singleton.1 hm]
  | a :: b :: t,hl,_=>simp at hl
 have hs:ze z=r:=by unfold ze;rw[he];rfl
 rw[hs];refine⟨he,hr,h6,?_⟩;have:=(hv.each r hr).2.1;unfold zn.jV at this;simp only[Bool.not_eq_false',Bool.and_eq_true,decide_eq_true_eq]at this;rw[← h6];exact this.2
theorem QX {z:Zn}(hv:Ok z):20≤(ze z).data.size∧(ze z).data.size≤65535:=dt.QX (yM hv).2.2.2
theorem num_nat {d:ByteArray}(h:20≤d.size):∃n:Nat,up.QI d=(n:Int)∧n<4294967296:=by
 refine⟨_,rfl,?_⟩;have hs:(d.extract (d.size-20) (d.size-16)).size=4:=by rw[ByteArray.size_extract];omega
 rw[hs];exact Nat.lt_of_lt_of_le (dt.KX _ 4) (by decide)
theorem num_serial {d:ByteArray}(h:20≤d.size):up.QI d=zn.Zw d:=by
 unfold up.QI zn.Zw;have hs:(d.extract (d.size-20) (d.size-16)).size=4:=by rw[ByteArray.size_extract];omega
 rw[hs]
theorem ser_num {z:Zn}(hv:Ok z):yA z=up.QI (ze z).data:=(num_serial (QX hv).1).symm
end tr
end Go.Proofs.YtpcmilhjpmlbpaaGreatDoor
