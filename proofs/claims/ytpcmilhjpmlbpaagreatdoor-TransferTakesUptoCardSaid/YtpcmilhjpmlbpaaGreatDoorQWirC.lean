import Derived.Test.YtpcmilhjpmlbpaaGreatDoorQTrQ
set_option maxRecDepth 100000
set_option maxHeartbeats 8000000
namespace Go.Proofs.YtpcmilhjpmlbpaaGreatDoor
open Go.RowKit Go.Shelf nm od
theorem rwcheck_any (h:Hd)(qs:List Qn)(an au ad:List Rec)(hq:qs.length<=1000000000000)(ha:an.length<=1000000000000)(hu:au.length<=1000000000000)(hd:ad.length<=1000000000000)(q a u d:Value)(w:World)
 (sq:∀x∈qs,x.name.size<=1099511627776) (sa:∀x∈an,x.owner.size<=1099511627776) (su:∀x∈au,x.owner.size<=1099511627776) (sd:∀x∈ad,x.owner.size<=1099511627776)
 (rq:yw w q qs) (ra:ql w a an) (ru:ql w u au) (rd:ql w d ad):
 Calls Tryz.prog 40 #[yu h q a u d] w λe w'=>e= .returned (.int .i64 (wi.okI (wi.jL h qs an au ad)))/\Below w.heap.size w w':=by
 obtain⟨w1,hw1⟩:=yM (w.alloc (.cells (yT h q a u d).toArray 33));obtain⟨hB1,hs1,hm1⟩:=zG hw1;have HQ:=qe rq;have HA:=qe ra;have HU:=qe ru;have HD:=qe rd;have SQ:=qe sq;have SA:=qe sa;have SU:=qe su;have SD:=qe sd;obtain⟨qa,qc,rfl,-⟩:=id rq;obtain⟨aa,ac,rfl,-⟩:=id ra;obtain⟨ua,uc,rfl,-⟩:=id ru;obtain⟨da,dc,rfl,-⟩:=id rd;obtain⟨x0,x1,x2,x3,x4,x5,x6,x7,x8,x9,x10,x11,x12,x13⟩:=hm1.facts;obtain⟨o1,ho1⟩:=yM (wi.hdB h);obtain⟨o2,ho2⟩:=yM ((o1 && wi.lenB qs an au ad));have HO1:=qe ho1;have HO2:=qe ho2;have HW1:=qe hw1;have HB1:=qe hB1;have HM1:=qe hm1;clear hw1 hB1 hm1;clear hs1 rq ra ru rd sq sa su sd ho1 ho2
 go_enter Tryz.func40,Tryz.ntmps40
 go_upto_region 1 with fail;rw[<- HW1.out]
 go_cut [3] (λt wx=>t= .bool o1/\w1=wx)
 case first=>
  by_cases l1:0<=h.id
  ·have d1:decide (0<=h.id)=true:=gF l1;by_cases m1:h.id<=65535
   ·have f1:decide (h.id<=65535)=true:=gF m1;have HI1:=qe (show wi.inB h.id 65535=true from gF ⟨l1,m1⟩);clear l1 m1;by_cases l2:0<=h.op
    ·have d2:decide (0<=h.op)=true:=gF l2;by_cases m2:h.op<=15
     ·have f2:decide (h.op<=15)=true:=gF m2;have HI2:=qe (show wi.inB h.op 15=true from gF ⟨l2,m2⟩);clear l2 m2;by_cases l3:0<=h.yL
      ·have d3:decide (0<=h.yL)=true:=gF l3;by_cases m3:h.yL<=15
       ·have f3:decide (h.yL<=15)=true:=gF m3;have HI3:=qe (show wi.inB h.yL 15=true from gF ⟨l3,m3⟩);clear l3 m3;have hr:o1=true:=by rw[HO1.out,wi.hdB,HI1.out,HI2.out,HI3.out];rfl
        have HR:=qe hr;clear hr;go_wp2_with fail;go_meet;exact⟨by rw[HR.out],rfl⟩
       ·have f3:decide (h.yL<=15)=false:=gp m3;have hr:o1=false:=by rw[HO1.out,wi.hdB,show wi.inB h.yL 15=false from gp λh=>m3 h.2];simp
        clear l3 m3;have HR:=qe hr;clear hr;go_wp2_with fail;go_meet;exact⟨by rw[HR.out],rfl⟩
      ·have d3:decide (0<=h.yL)=false:=gp l3;have hr:o1=false:=by rw[HO1.out,wi.hdB,show wi.inB h.yL 15=false from gp λh=>l3 h.1];simp
       clear l3;have HR:=qe hr;clear hr;go_wp2_with fail;go_meet;exact⟨by rw[HR.out],rfl⟩
     ·have f2:decide (h.op<=15)=false:=gp m2;have hr:o1=false:=by rw[HO1.out,wi.hdB,show wi.inB h.op 15=false from gp λh=>m2 h.2];simp
      clear l2 m2;have HR:=qe hr;clear hr;go_wp2_with fail;go_meet;exact⟨by rw[HR.out],rfl⟩
    ·have d2:decide (0<=h.op)=false:=gp l2;have hr:o1=false:=by rw[HO1.out,wi.hdB,show wi.inB h.op 15=false from gp λh=>l2 h.1];simp
     clear l2;have HR:=qe hr;clear hr;go_wp2_with fail;go_meet;exact⟨by rw[HR.out],rfl⟩
   ·have f1:decide (h.id<=65535)=false:=gp m1;have hr:o1=false:=by rw[HO1.out,wi.hdB,show wi.inB h.id 65535=false from gp λh=>m1 h.2];simp
    clear l1 m1;have HR:=qe hr;clear hr;go_wp2_with fail;go_meet;exact⟨by rw[HR.out],rfl⟩
  ·have d1:decide (0<=h.id)=false:=gp l1;have hr:o1=false:=by rw[HO1.out,wi.hdB,show wi.inB h.id 65535=false from gp λh=>l1 h.1];simp
   clear l1;have HR:=qe hr;clear hr;go_wp2_with fail;go_meet;exact⟨by rw[HR.out],rfl⟩
 case rest=>
  obtain⟨rfl,rfl⟩:=hcut;go_upto_region 2 with fail
  go_cut [3] (λt wx=>t= .bool o2/\w1=wx)
  case first=>
   cases o1
   ·have hr:o2=false:=by rw[HO2.out];rfl
    have HR:=qe hr;clear hr;go_wp2_with fail;go_meet;exact⟨by rw[HR.out],rfl⟩
   ·by_cases l1:qs.length<=65535
    ·have d1:decide ((qs.length:Int)<=65535)=true:=gF (by omega);by_cases l2:an.length<=65535
     ·have d2:decide ((an.length:Int)<=65535)=true:=gF (by omega);by_cases l3:au.length<=65535
      ·have d3:decide ((au.length:Int)<=65535)=true:=gF (by omega);by_cases l4:ad.length<=65535
       ·have d4:decide ((ad.length:Int)<=65535)=true:=gF (by omega);have hr:o2=true:=by rw[HO2.out,wi.lenB,gF ⟨l1,l2,l3,l4⟩];rfl
        clear l1 l2 l3 l4;have HR:=qe hr;clear hr;go_wp2_with fail;go_meet;exact⟨by rw[HR.out],rfl⟩
       ·have d4:decide ((ad.length:Int)<=65535)=false:=gp (by omega);have hr:o2=false:=by rw[HO2.out,wi.lenB,gp λh=>l4 h.2.2.2];rfl
        clear l1 l2 l3 l4;have HR:=qe hr;clear hr;go_wp2_with fail;go_meet;exact⟨by rw[HR.out],rfl⟩
      ·have d3:decide ((au.length:Int)<=65535)=false:=gp (by omega);have hr:o2=false:=by rw[HO2.out,wi.lenB,gp λh=>l3 h.2.2.1];rfl
       clear l1 l2 l3;have HR:=qe hr;clear hr;go_wp2_with fail;go_meet;exact⟨by rw[HR.out],rfl⟩
     ·have d2:decide ((an.length:Int)<=65535)=false:=gp (by omega);have hr:o2=false:=by rw[HO2.out,wi.lenB,gp λh=>l2 h.2.1];rfl
      clear l1 l2;have HR:=qe hr;clear hr;go_wp2_with fail;go_meet;exact⟨by rw[HR.out],rfl⟩
    ·have d1:decide ((qs.length:Int)<=65535)=false:=gp (by omega);have hr:o2=false:=by rw[HO2.out,wi.lenB,gp λh=>l1 h.1];rfl
     clear l1;have HR:=qe hr;clear hr;go_wp2_with fail;go_meet;exact⟨by rw[HR.out],rfl⟩
  case rest=>
   obtain⟨rfl,rfl⟩:=hcut;go_wp2_with fail;clear x0 x1 x2 x3 x4 x5 x6 x7 x8 x9 x10 x11 x12 x13
   go_loopw [68,3] (λkv ov wr=>∃k:Nat,k<=qs.length/\kv= .int .i64 (k:Int)/\ov= .bool (o2 && (qs.take k).all wi.qnB)/\Hid (Below w1.heap.size w1 wr)) (λkv _ _=>qs.length-(intOf kv).toNat)
   case atStart=>exact⟨0,gU _,rfl,by simp,qe (gJ _ _)⟩
   case round=>
    obtain⟨k,hk,rfl,rfl,HR⟩:=hrel;obtain⟨w3,hw3⟩:=yM wr;subst hw3;have HB3:=qe (gm HB1.out HR.out);obtain⟨oo,hoo⟩:=yM ((o2 && (qs.take k).all wi.qnB));rw[<- hoo];have HOO:=qe hoo;clear hoo;by_cases hlt:k<qs.length
    ·have hki:(k:Int)<(qs.length:Int):=by omega
     obtain⟨_,_,hv,_,hr0⟩:=yw.below HQ.out HB3.out;simp only[gL,true_and]at hv;obtain⟨rfl,rfl⟩:=hv;obtain⟨bb,off,rfl,hbl,c0,c1,c2⟩:=hr0 k hlt;obtain⟨x,hx⟩:=yM (qs[k]);rw[<- hx]at c0 c1 c2;obtain⟨wa,hwa⟩:=yM (w3.alloc (.cells (qnC x).toArray 78));obtain⟨hBa,hsa,hxa⟩:=YS w3 wa x hwa;obtain⟨bx,hbx⟩:=yM w3.heap.size;rw[<- hbx]at hxa;have hbxl:bx<wa.heap.size:=by omega
     obtain⟨y0,y1,y2⟩:=id hxa;simp only[Nat.zero_add]at y1 y2;have hxs:x.name.size<=1099511627776:=by rw[hx];exact SQ.out _ (Ht hlt)
     obtain⟨on,hon⟩:=yM ((oo && wi.qnB x));have HNX:=qe (show(o2 && (qs.take (k+1)).all wi.qnB)=on by rw[wi.JM _ hlt,hon,HOO.out,hx,Bool.and_assoc]);have HWA:=qe hwa;have HXA:=qe hxa;have Uk:=qe hbxl;have HBX:=qe hbx;have HXS:=qe hxs;have HON:=qe hon;have HC4:=qe (gm HR.out hBa);clear hwa hx hBa hsa hr0 hbl hxa hbxl hbx hxs hon;go_upto_region 6 with fail;rw[<- HWA.out,<- HBX.out];clear c0 c1 c2
     cases oo
     ·have Yu:on=false:=by rw[HON.out];rfl
      have HB6:=qe (gJ wa.heap.size wa);have YI:=qe Yu;have HC6:=qe (gm HC4.out HB6.out);clear Yu;go_wp2_with fail
      go_roundw
      case rel=>
       first
        | exact⟨k+1,by omega,by go_num,by rw[HNX.out,YI.out],HC6⟩
        | (repeat apply gW
           refine And.intro ?_ ?_
           rotate_left
           ·repeat (first | exact rfl | refine And.intro rfl ?_)
           exact⟨k+1,by omega,by go_num,by rw[HNX.out,YI.out],HC6⟩)
      case measure=>simp[intOf];omega
     ·go_wp2_with fail;refine(zu x.name HXS.out _).mono ?_;rintro e w5 ⟨rfl,hB5⟩;obtain⟨z0,z1,z2⟩:=HXA.out.keep (hB5.block bx Uk.out);simp only[Nat.zero_add]at z1 z2;have HB6:=qe hB5;clear hB5 y0 y1 y2;obtain⟨cb,hcb⟩:=yM (qo x.name);rw[<- hcb]
      cases cb
      ·have Yu:on=false:=by rw[HON.out,wi.qnB,<- hcb];rfl
       clear hcb;have YI:=qe Yu;have HC6:=qe (gm HC4.out HB6.out);clear Yu;go_wp2_with fail
       go_roundw
       case rel=>
        first
         | exact⟨k+1,by omega,by go_num,by rw[HNX.out,YI.out],HC6⟩
         | (repeat apply gW
            refine And.intro ?_ ?_
            rotate_left
            ·repeat (first | exact rfl | refine And.intro rfl ?_)
            exact⟨k+1,by omega,by go_num,by rw[HNX.out,YI.out],HC6⟩)
       case measure=>simp[intOf];omega
      ·have HC:=qe hcb.symm;clear hcb;by_cases l1:0<=x.typ
       ·have d1:decide (0<=x.typ)=true:=gF l1;by_cases m1:x.typ<=65535
        ·have f1:decide (x.typ<=65535)=true:=gF m1;have HI1:=qe (show wi.inB x.typ 65535=true from gF ⟨l1,m1⟩);clear l1 m1;by_cases l2:0<=x.cls
         ·have d2:decide (0<=x.cls)=true:=gF l2;by_cases m2:x.cls<=65535
          ·have f2:decide (x.cls<=65535)=true:=gF m2;have HI2:=qe (show wi.inB x.cls 65535=true from gF ⟨l2,m2⟩);clear l2 m2;have Yu:on=true:=by rw[HON.out,wi.qnB,HC.out,HI1.out,HI2.out];rfl
           have YI:=qe Yu;have HC6:=qe (gm HC4.out HB6.out);clear Yu;go_wp2_with fail
           go_roundw
           case rel=>
            first
             | exact⟨k+1,by omega,by go_num,by rw[HNX.out,YI.out],HC6⟩
             | (repeat apply gW
                refine And.intro ?_ ?_
                rotate_left
                ·repeat (first | exact rfl | refine And.intro rfl ?_)
                exact⟨k+1,by omega,by go_num,by rw[HNX.out,YI.out],HC6⟩)
           case measure=>simp[intOf];omega
          ·have f2:decide (x.cls<=65535)=false:=gp m2;have Yu:on=false:=by rw[HON.out,wi.qnB,show wi.inB x.cls 65535=false from gp λh=>m2 h.2];simp
           clear l2 m2;have YI:=qe Yu;have HC6:=qe (gm HC4.out HB6.out);clear Yu;go_wp2_with fail
           go_roundw
           case rel=>
            first
             | exact⟨k+1,by omega,by go_num,by rw[HNX.out,YI.out],HC6⟩
             | (repeat apply gW
                refine And.intro ?_ ?_
                rotate_left
                ·repeat (first | exact rfl | refine And.intro rfl ?_)
                exact⟨k+1,by omega,by go_num,by rw[HNX.out,YI.out],HC6⟩)
           case measure=>simp[intOf];omega
         ·have d2:decide (0<=x.cls)=false:=gp l2;have Yu:on=false:=by rw[HON.out,wi.qnB,show wi.inB x.cls 65535=false from gp λh=>l2 h.1];simp
          clear l2;have YI:=qe Yu;have HC6:=qe (gm HC4.out HB6.out);clear Yu;go_wp2_with fail
          go_roundw
          case rel=>
           first
            | exact⟨k+1,by omega,by go_num,by rw[HNX.out,YI.out],HC6⟩
            | (repeat apply gW
               refine And.intro ?_ ?_
               rotate_left
               ·repeat (first | exact rfl | refine And.intro rfl ?_)
               exact⟨k+1,by omega,by go_num,by rw[HNX.out,YI.out],HC6⟩)
          case measure=>simp[intOf];omega
        ·have f1:decide (x.typ<=65535)=false:=gp m1;have Yu:on=false:=by rw[HON.out,wi.qnB,show wi.inB x.typ 65535=false from gp λh=>m1 h.2];simp
         clear l1 m1;have YI:=qe Yu;have HC6:=qe (gm HC4.out HB6.out);clear Yu;go_wp2_with fail
         go_roundw
         case rel=>
          first
           | exact⟨k+1,by omega,by go_num,by rw[HNX.out,YI.out],HC6⟩
           | (repeat apply gW
              refine And.intro ?_ ?_
              rotate_left
              ·repeat (first | exact rfl | refine And.intro rfl ?_)
              exact⟨k+1,by omega,by go_num,by rw[HNX.out,YI.out],HC6⟩)
         case measure=>simp[intOf];omega
       ·have d1:decide (0<=x.typ)=false:=gp l1;have Yu:on=false:=by rw[HON.out,wi.qnB,show wi.inB x.typ 65535=false from gp λh=>l1 h.1];simp
        clear l1;have YI:=qe Yu;have HC6:=qe (gm HC4.out HB6.out);clear Yu;go_wp2_with fail
        go_roundw
        case rel=>
         first
          | exact⟨k+1,by omega,by go_num,by rw[HNX.out,YI.out],HC6⟩
          | (repeat apply gW
             refine And.intro ?_ ?_
             rotate_left
             ·repeat (first | exact rfl | refine And.intro rfl ?_)
             exact⟨k+1,by omega,by go_num,by rw[HNX.out,YI.out],HC6⟩)
        case measure=>simp[intOf];omega
    ·obtain rfl:k=qs.length:=by omega
     have HE:=qe (show oo=(o2 && qs.all wi.qnB) by rw[HOO.out,List.take_length]);obtain⟨x0,x1,x2,x3,x4,x5,x6,x7,x8,x9,x10,x11,x12,x13⟩:=(HM1.out.below HR.out).facts;clear hlt;go_wp2_with fail;clear x0 x1 x2 x3 x4 x5 x6 x7 x8 x9 x10 x11 x12 x13
     go_loopw [102,3] (λkv ov wr=>∃k:Nat,k<=an.length/\kv= .int .i64 (k:Int)/\ov= .bool (oo && (an.take k).all wi.qP)/\Hid (Below w1.heap.size w1 wr)) (λkv _ _=>an.length-(intOf kv).toNat)
     case atStart=>exact⟨0,gU _,rfl,by simp,HR⟩
     case round=>
      obtain⟨k,hk,rfl,rfl,HR⟩:=hrel;obtain⟨w3,hw3⟩:=yM wr;subst hw3;have HB3:=qe (gm HB1.out HR.out);obtain⟨o4,hoo⟩:=yM ((oo && (an.take k).all wi.qP));rw[<- hoo];have HOO:=qe hoo;clear hoo;by_cases hlt:k<an.length
      ·have hki:(k:Int)<(an.length:Int):=by omega
       obtain⟨_,_,hv,_,hr0⟩:=HA.out.below HB3.out;simp only[gL,true_and]at hv;obtain⟨rfl,rfl⟩:=hv;obtain⟨bb,off,rfl,hbl,c0,c1,c2,c3,c4⟩:=hr0 k hlt;obtain⟨x,hx⟩:=yM (an[k]);rw[<- hx]at c0 c1 c2 c3 c4;obtain⟨wa,hwa⟩:=yM (w3.alloc (.cells (recC x).toArray 80));obtain⟨hBa,hsa,hxa⟩:=zf w3 wa x hwa;obtain⟨bx,hbx⟩:=yM w3.heap.size;rw[<- hbx]at hxa;obtain⟨x0,x1,x2,x3,x4⟩:=hxa;have hxs:x.owner.size<=1099511627776:=by rw[hx];exact SA.out _ (Ht hlt)
       have HWA:=qe hwa;have HBX:=qe hbx;have HXS:=qe hxs;have HNX:=qe (show(oo && (an.take (k+1)).all wi.qP)=(o4 && wi.qP x) by rw[wi.JM _ hlt,HOO.out,hx,Bool.and_assoc]);have HB4:=qe (gm HB3.out hBa);have HC4:=qe (gm HR.out hBa);clear hwa hx hBa hsa hr0 hbl hbx hxs;go_upto_region 11 with fail;rw[<- HWA.out,<- HBX.out];clear c0 c1 c2 c3 c4
       cases o4
       ·go_wp2_with fail
        go_roundw
        case rel=>
         first
          | exact⟨k+1,by omega,by go_num,by rw[HNX.out];rfl,HC4⟩
          | (repeat apply gW
             refine And.intro ?_ ?_
             rotate_left
             ·repeat (first | exact rfl | refine And.intro rfl ?_)
             exact⟨k+1,by omega,by go_num,by rw[HNX.out];rfl,HC4⟩)
        case measure=>simp[intOf];omega
       ·go_wp2_with fail;refine(Jl x HXS.out _).mono ?_;rintro e w5 ⟨rfl,hB5⟩;have HC5:=qe (gm HC4.out hB5);clear hB5 x0 x1 x2 x3 x4;go_wp2_with fail
        go_roundw
        case rel=>
         first
          | exact⟨k+1,by omega,by go_num,by rw[HNX.out];rfl,HC5⟩
          | (repeat apply gW
             refine And.intro ?_ ?_
             rotate_left
             ·repeat (first | exact rfl | refine And.intro rfl ?_)
             exact⟨k+1,by omega,by go_num,by rw[HNX.out];rfl,HC5⟩)
        case measure=>simp[intOf];omega
      ·obtain rfl:k=an.length:=by omega
       have HE2:=qe (show o4=(oo && an.all wi.qP) by rw[HOO.out,List.take_length]);obtain⟨x0,x1,x2,x3,x4,x5,x6,x7,x8,x9,x10,x11,x12,x13⟩:=(HM1.out.below HR.out).facts;clear hlt;go_wp2_with fail;clear x0 x1 x2 x3 x4 x5 x6 x7 x8 x9 x10 x11 x12 x13
       go_loopw [115,3] (λkv ov wr=>∃k:Nat,k<=au.length/\kv= .int .i64 (k:Int)/\ov= .bool (o4 && (au.take k).all wi.qP)/\Hid (Below w1.heap.size w1 wr)) (λkv _ _=>au.length-(intOf kv).toNat)
       case atStart=>exact⟨0,gU _,rfl,by simp,HR⟩
       case round=>
        obtain⟨k,hk,rfl,rfl,HR⟩:=hrel;obtain⟨w3,hw3⟩:=yM wr;subst hw3;have HB3:=qe (gm HB1.out HR.out);obtain⟨o5,hoo⟩:=yM ((o4 && (au.take k).all wi.qP));rw[<- hoo];have HOO:=qe hoo;clear hoo;by_cases hlt:k<au.length
        ·have hki:(k:Int)<(au.length:Int):=by omega
         obtain⟨_,_,hv,_,hr0⟩:=HU.out.below HB3.out;simp only[gL,true_and]at hv;obtain⟨rfl,rfl⟩:=hv;obtain⟨bb,off,rfl,hbl,c0,c1,c2,c3,c4⟩:=hr0 k hlt;obtain⟨x,hx⟩:=yM (au[k]);rw[<- hx]at c0 c1 c2 c3 c4;obtain⟨wa,hwa⟩:=yM (w3.alloc (.cells (recC x).toArray 80));obtain⟨hBa,hsa,hxa⟩:=zf w3 wa x hwa;obtain⟨bx,hbx⟩:=yM w3.heap.size;rw[<- hbx]at hxa;obtain⟨x0,x1,x2,x3,x4⟩:=hxa;have hxs:x.owner.size<=1099511627776:=by rw[hx];exact SU.out _ (Ht hlt)
         have HWA:=qe hwa;have HBX:=qe hbx;have HXS:=qe hxs;have HNX:=qe (show(o4 && (au.take (k+1)).all wi.qP)=(o5 && wi.qP x) by rw[wi.JM _ hlt,HOO.out,hx,Bool.and_assoc]);have HB4:=qe (gm HB3.out hBa);have HC4:=qe (gm HR.out hBa);clear hwa hx hBa hsa hr0 hbl hbx hxs;go_upto_region 16 with fail;rw[<- HWA.out,<- HBX.out];clear c0 c1 c2 c3 c4
         cases o5
         ·go_wp2_with fail
          go_roundw
          case rel=>
           first
            | exact⟨k+1,by omega,by go_num,by rw[HNX.out];rfl,HC4⟩
            | (repeat apply gW
               refine And.intro ?_ ?_
               rotate_left
               ·repeat (first | exact rfl | refine And.intro rfl ?_)
               exact⟨k+1,by omega,by go_num,by rw[HNX.out];rfl,HC4⟩)
          case measure=>simp[intOf];omega
         ·go_wp2_with fail;refine(Jl x HXS.out _).mono ?_;rintro e w5 ⟨rfl,hB5⟩;have HC5:=qe (gm HC4.out hB5);clear hB5 x0 x1 x2 x3 x4;go_wp2_with fail
          go_roundw
          case rel=>
           first
            | exact⟨k+1,by omega,by go_num,by rw[HNX.out];rfl,HC5⟩
            | (repeat apply gW
               refine And.intro ?_ ?_
               rotate_left
               ·repeat (first | exact rfl | refine And.intro rfl ?_)
               exact⟨k+1,by omega,by go_num,by rw[HNX.out];rfl,HC5⟩)
          case measure=>simp[intOf];omega
        ·obtain rfl:k=au.length:=by omega
         have HE3:=qe (show o5=(o4 && au.all wi.qP) by rw[HOO.out,List.take_length]);obtain⟨x0,x1,x2,x3,x4,x5,x6,x7,x8,x9,x10,x11,x12,x13⟩:=(HM1.out.below HR.out).facts;clear hlt;go_wp2_with fail;clear x0 x1 x2 x3 x4 x5 x6 x7 x8 x9 x10 x11 x12 x13
         go_loopw [128,3] (λkv ov wr=>∃k:Nat,k<=ad.length/\kv= .int .i64 (k:Int)/\ov= .bool (o5 && (ad.take k).all wi.qP)/\Hid (Below w1.heap.size w1 wr)) (λkv _ _=>ad.length-(intOf kv).toNat)
         case atStart=>exact⟨0,gU _,rfl,by simp,HR⟩
         case round=>
          obtain⟨k,hk,rfl,rfl,HR⟩:=hrel;obtain⟨w3,hw3⟩:=yM wr;subst hw3;have HB3:=qe (gm HB1.out HR.out);obtain⟨o6,hoo⟩:=yM ((o5 && (ad.take k).all wi.qP));rw[<- hoo];have HOO:=qe hoo;clear hoo;by_cases hlt:k<ad.length
          ·have hki:(k:Int)<(ad.length:Int):=by omega
           obtain⟨_,_,hv,_,hr0⟩:=HD.out.below HB3.out;simp only[gL,true_and]at hv;obtain⟨rfl,rfl⟩:=hv;obtain⟨bb,off,rfl,hbl,c0,c1,c2,c3,c4⟩:=hr0 k hlt;obtain⟨x,hx⟩:=yM (ad[k]);rw[<- hx]at c0 c1 c2 c3 c4;obtain⟨wa,hwa⟩:=yM (w3.alloc (.cells (recC x).toArray 80));obtain⟨hBa,hsa,hxa⟩:=zf w3 wa x hwa;obtain⟨bx,hbx⟩:=yM w3.heap.size;rw[<- hbx]at hxa;obtain⟨x0,x1,x2,x3,x4⟩:=hxa;have hxs:x.owner.size<=1099511627776:=by rw[hx];exact SD.out _ (Ht hlt)
           have HWA:=qe hwa;have HBX:=qe hbx;have HXS:=qe hxs;have HNX:=qe (show(o5 && (ad.take (k+1)).all wi.qP)=(o6 && wi.qP x) by rw[wi.JM _ hlt,HOO.out,hx,Bool.and_assoc]);have HB4:=qe (gm HB3.out hBa);have HC4:=qe (gm HR.out hBa);clear hwa hx hBa hsa hr0 hbl hbx hxs;go_upto_region 21 with fail;rw[<- HWA.out,<- HBX.out];clear c0 c1 c2 c3 c4
           cases o6
           ·go_wp2_with fail
            go_roundw
            case rel=>
             first
              | exact⟨k+1,by omega,by go_num,by rw[HNX.out];rfl,HC4⟩
              | (repeat apply gW
                 refine And.intro ?_ ?_
                 rotate_left
                 ·repeat (first | exact rfl | refine And.intro rfl ?_)
                 exact⟨k+1,by omega,by go_num,by rw[HNX.out];rfl,HC4⟩)
            case measure=>simp[intOf];omega
           ·go_wp2_with fail;refine(Jl x HXS.out _).mono ?_;rintro e w5 ⟨rfl,hB5⟩;have HC5:=qe (gm HC4.out hB5);clear hB5 x0 x1 x2 x3 x4;go_wp2_with fail
            go_roundw
            case rel=>
             first
              | exact⟨k+1,by omega,by go_num,by rw[HNX.out];rfl,HC5⟩
              | (repeat apply gW
                 refine And.intro ?_ ?_
                 rotate_left
                 ·repeat (first | exact rfl | refine And.intro rfl ?_)
                 exact⟨k+1,by omega,by go_num,by rw[HNX.out];rfl,HC5⟩)
            case measure=>simp[intOf];omega
          ·obtain rfl:k=ad.length:=by omega
           have HE4:=qe (show o6=(o5 && ad.all wi.qP) by rw[HOO.out,List.take_length]);obtain⟨x0,x1,x2,x3,x4,x5,x6,x7,x8,x9,x10,x11,x12,x13⟩:=(HM1.out.below HR.out).facts;clear hlt;clear x0 x1 x2 x3 x4 x5 x6 x7 x8 x9 x10 x11 x12 x13;have hm:wi.jL h qs an au ad=o6:=by unfold wi.jL;rw[HE4.out,HE3.out,HE2.out,HE.out,HO2.out,HO1.out]
           cases o6
           ·have HM8:=qe (show wi.okI (wi.jL h qs an au ad)=8 by rw[hm];rfl);clear hm;go_wp2_with fail;go_ret;exact⟨qQ HM8.out.symm,HB3.out⟩
           ·have HM8:=qe (show wi.okI (wi.jL h qs an au ad)=0 by rw[hm];rfl);clear hm;go_wp2_with fail;go_ret;exact⟨qQ HM8.out.symm,HB3.out⟩
end Go.Proofs.YtpcmilhjpmlbpaaGreatDoor
