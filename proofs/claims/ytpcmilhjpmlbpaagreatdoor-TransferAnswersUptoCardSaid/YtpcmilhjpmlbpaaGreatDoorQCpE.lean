import Derived.Test.YtpcmilhjpmlbpaaGreatDoorQCpR
set_option maxRecDepth 100000
set_option maxHeartbeats 8000000
namespace Go.Proofs.YtpcmilhjpmlbpaaGreatDoor
open Go.RowKit Go.Shelf nm od
theorem rwcheck_any (h:Hd)(qs:List Qn)(an au ad:List Rec)(hq:qs.length≤1000000000000)(ha:an.length≤1000000000000)(hu:au.length≤1000000000000)(hd:ad.length≤1000000000000)(q a u d:Value)(w:World)
 (sq:∀x∈qs,x.name.size≤1099511627776) (sa:∀x∈an,x.owner.size≤1099511627776) (su:∀x∈au,x.owner.size≤1099511627776) (sd:∀x∈ad,x.owner.size≤1099511627776)
 (rq:yu w q qs) (ra:qm w a an) (ru:qm w u au) (rd:qm w d ad):
 Calls Tryz.prog 40 #[yZ h q a u d] w fun e w'=>e= .returned (.int .i64 (wi.okI (wi.jE h qs an au ad)))∧Below w.heap.size w w':=by
 obtain⟨w1,hw1⟩:∃X,X=w.alloc (.cells (yG h q a u d).toArray 33):=⟨_,rfl⟩;obtain⟨hB1,hs1,hm1⟩:=zC hw1;have HQ:=qe rq;have HA:=qe ra;have HU:=qe ru;have HD:=qe rd;have SQ:=qe sq;have SA:=qe sa;have SU:=qe su;have SD:=qe sd;obtain⟨qa,qc,rfl,-⟩:=id rq;obtain⟨aa,ac,rfl,-⟩:=id ra;obtain⟨ua,uc,rfl,-⟩:=id ru;obtain⟨da,dc,rfl,-⟩:=id rd;obtain⟨x0,x1,x2,x3,x4,x5,x6,x7,x8,x9,x10,x11,x12,x13⟩:=hm1.facts;obtain⟨o1,ho1⟩:∃o,o=wi.hdB h:=⟨_,rfl⟩;obtain⟨o2,ho2⟩:∃o,o=(o1 && wi.lenB qs an au ad):=⟨_,rfl⟩;have HO1:=qe ho1;have HO2:=qe ho2;have HW1:=qe hw1;have HB1:=qe hB1;have HM1:=qe hm1;clear hw1 hB1 hm1;clear hs1 rq ra ru rd sq sa su sd ho1 ho2
 go_enter Tryz.func40,Tryz.ntmps40
 go_upto_region 1 with fail;rw[← HW1.out]
 go_cut [3] (fun t wx=>t= .bool o1∧w1=wx)
 case first=>
  by_cases l1:0≤h.id
  ·have d1:decide (0≤h.id)=true:=decide_eq_true l1;by_cases m1:h.id≤65535
   ·have f1:decide (h.id≤65535)=true:=decide_eq_true m1;have HI1:=qe (show wi.inB h.id 65535=true from decide_eq_true ⟨l1,m1⟩);clear l1 m1;by_cases l2:0≤h.op
    ·have d2:decide (0≤h.op)=true:=decide_eq_true l2;by_cases m2:h.op≤15
     ·have f2:decide (h.op≤15)=true:=decide_eq_true m2;have HI2:=qe (show wi.inB h.op 15=true from decide_eq_true ⟨l2,m2⟩);clear l2 m2;by_cases l3:0≤h.jq
      ·have d3:decide (0≤h.jq)=true:=decide_eq_true l3;by_cases m3:h.jq≤15
       ·have f3:decide (h.jq≤15)=true:=decide_eq_true m3;have HI3:=qe (show wi.inB h.jq 15=true from decide_eq_true ⟨l3,m3⟩);clear l3 m3;have hr:o1=true:=by rw[HO1.out,wi.hdB,HI1.out,HI2.out,HI3.out];rfl
        have HR:=qe hr;clear hr;go_wp2_with fail;go_meet;exact⟨by rw[HR.out],rfl⟩
       ·have f3:decide (h.jq≤15)=false:=decide_eq_false m3;have hr:o1=false:=by rw[HO1.out,wi.hdB,show wi.inB h.jq 15=false from decide_eq_false fun h=>m3 h.2];simp
        clear l3 m3;have HR:=qe hr;clear hr;go_wp2_with fail;go_meet;exact⟨by rw[HR.out],rfl⟩
      ·have d3:decide (0≤h.jq)=false:=decide_eq_false l3;have hr:o1=false:=by rw[HO1.out,wi.hdB,show wi.inB h.jq 15=false from decide_eq_false fun h=>l3 h.1];simp
       clear l3;have HR:=qe hr;clear hr;go_wp2_with fail;go_meet;exact⟨by rw[HR.out],rfl⟩
     ·have f2:decide (h.op≤15)=false:=decide_eq_false m2;have hr:o1=false:=by rw[HO1.out,wi.hdB,show wi.inB h.op 15=false from decide_eq_false fun h=>m2 h.2];simp
      clear l2 m2;have HR:=qe hr;clear hr;go_wp2_with fail;go_meet;exact⟨by rw[HR.out],rfl⟩
    ·have d2:decide (0≤h.op)=false:=decide_eq_false l2;have hr:o1=false:=by rw[HO1.out,wi.hdB,show wi.inB h.op 15=false from decide_eq_false fun h=>l2 h.1];simp
     clear l2;have HR:=qe hr;clear hr;go_wp2_with fail;go_meet;exact⟨by rw[HR.out],rfl⟩
   ·have f1:decide (h.id≤65535)=false:=decide_eq_false m1;have hr:o1=false:=by rw[HO1.out,wi.hdB,show wi.inB h.id 65535=false from decide_eq_false fun h=>m1 h.2];simp
    clear l1 m1;have HR:=qe hr;clear hr;go_wp2_with fail;go_meet;exact⟨by rw[HR.out],rfl⟩
  ·have d1:decide (0≤h.id)=false:=decide_eq_false l1;have hr:o1=false:=by rw[HO1.out,wi.hdB,show wi.inB h.id 65535=false from decide_eq_false fun h=>l1 h.1];simp
   clear l1;have HR:=qe hr;clear hr;go_wp2_with fail;go_meet;exact⟨by rw[HR.out],rfl⟩
 case rest=>
  obtain⟨rfl,rfl⟩:=hcut;go_upto_region 2 with fail
  go_cut [3] (fun t wx=>t= .bool o2∧w1=wx)
  case first=>
   cases o1
   ·have hr:o2=false:=by rw[HO2.out];rfl
    have HR:=qe hr;clear hr;go_wp2_with fail;go_meet;exact⟨by rw[HR.out],rfl⟩
   ·by_cases l1:qs.length≤65535
    ·have d1:decide ((qs.length:Int)≤65535)=true:=decide_eq_true (by omega);by_cases l2:an.length≤65535
     ·have d2:decide ((an.length:Int)≤65535)=true:=decide_eq_true (by omega);by_cases l3:au.length≤65535
      ·have d3:decide ((au.length:Int)≤65535)=true:=decide_eq_true (by omega);by_cases l4:ad.length≤65535
       ·have d4:decide ((ad.length:Int)≤65535)=true:=decide_eq_true (by omega);have hr:o2=true:=by rw[HO2.out,wi.lenB,decide_eq_true ⟨l1,l2,l3,l4⟩];rfl
        clear l1 l2 l3 l4;have HR:=qe hr;clear hr;go_wp2_with fail;go_meet;exact⟨by rw[HR.out],rfl⟩
       ·have d4:decide ((ad.length:Int)≤65535)=false:=decide_eq_false (by omega);have hr:o2=false:=by rw[HO2.out,wi.lenB,decide_eq_false fun h=>l4 h.2.2.2];rfl
        clear l1 l2 l3 l4;have HR:=qe hr;clear hr;go_wp2_with fail;go_meet;exact⟨by rw[HR.out],rfl⟩
      ·have d3:decide ((au.length:Int)≤65535)=false:=decide_eq_false (by omega);have hr:o2=false:=by rw[HO2.out,wi.lenB,decide_eq_false fun h=>l3 h.2.2.1];rfl
       clear l1 l2 l3;have HR:=qe hr;clear hr;go_wp2_with fail;go_meet;exact⟨by rw[HR.out],rfl⟩
     ·have d2:decide ((an.length:Int)≤65535)=false:=decide_eq_false (by omega);have hr:o2=false:=by rw[HO2.out,wi.lenB,decide_eq_false fun h=>l2 h.2.1];rfl
      clear l1 l2;have HR:=qe hr;clear hr;go_wp2_with fail;go_meet;exact⟨by rw[HR.out],rfl⟩
    ·have d1:decide ((qs.length:Int)≤65535)=false:=decide_eq_false (by omega);have hr:o2=false:=by rw[HO2.out,wi.lenB,decide_eq_false fun h=>l1 h.1];rfl
     clear l1;have HR:=qe hr;clear hr;go_wp2_with fail;go_meet;exact⟨by rw[HR.out],rfl⟩
  case rest=>
   obtain⟨rfl,rfl⟩:=hcut;go_wp2_with fail;clear x0 x1 x2 x3 x4 x5 x6 x7 x8 x9 x10 x11 x12 x13
   go_loopw [68,3] (fun kv ov wr=>∃k:Nat,k≤qs.length∧kv= .int .i64 (k:Int)∧ov= .bool (o2 && (qs.take k).all wi.qnB)∧Hid (Below w1.heap.size w1 wr)) (fun kv _ _=>qs.length-(intOf kv).toNat)
   case atStart=>exact⟨0,Nat.zero_le _,rfl,by simp,qe (Below.refl _ _)⟩
   case round=>
    obtain⟨k,hk,rfl,rfl,HR⟩:=hrel;obtain⟨w3,hw3⟩:∃X:World,X=wr:=⟨_,rfl⟩;subst hw3;have HB3:=qe (HB1.out.trans (HR.out.mono HB1.out.size));obtain⟨oo,hoo⟩:∃oo,oo=(o2 && (qs.take k).all wi.qnB):=⟨_,rfl⟩;rw[← hoo];have HOO:=qe hoo;clear hoo;by_cases hlt:k<qs.length
    ·have hki:(k:Int)<(qs.length:Int):=by omega
     obtain⟨_,_,hv,_,hr0⟩:=yu.below HQ.out HB3.out;simp only[Value.slice.injEq,true_and]at hv;obtain⟨rfl,rfl⟩:=hv;obtain⟨bb,off,rfl,hbl,c0,c1,c2⟩:=hr0 k hlt;obtain⟨x,hx⟩:∃x,x=qs[k]:=⟨_,rfl⟩;rw[← hx]at c0 c1 c2;obtain⟨wa,hwa⟩:∃W,W=w3.alloc (.cells (qnC x).toArray 78):=⟨_,rfl⟩;obtain⟨hBa,hsa,hxa⟩:=Vh w3 wa x hwa;obtain⟨bx,hbx⟩:∃b,b=w3.heap.size:=⟨_,rfl⟩;rw[← hbx]at hxa;have UA:bx<wa.heap.size:=by omega
     obtain⟨y0,y1,y2⟩:=id hxa;simp only[Nat.zero_add]at y1 y2;have hxs:x.name.size≤1099511627776:=by rw[hx];exact SQ.out _ (List.getElem_mem hlt)
     obtain⟨on,hon⟩:∃on,on=(oo && wi.qnB x):=⟨_,rfl⟩;have HNX:=qe (show(o2 && (qs.take (k+1)).all wi.qnB)=on by rw[wi.Jy _ hlt,hon,HOO.out,hx,Bool.and_assoc]);have HWA:=qe hwa;have HXA:=qe hxa;have JE:=qe UA;have HBX:=qe hbx;have HXS:=qe hxs;have HON:=qe hon;have HC4:=qe (HR.out.trans (hBa.mono HR.out.size));clear hwa hx hBa hsa hr0 hbl hxa UA hbx hxs hon;go_upto_region 6 with fail;rw[← HWA.out,← HBX.out];clear c0 c1 c2
     cases oo
     ·have Yi:on=false:=by rw[HON.out];rfl
      have HB6:=qe (Below.refl wa.heap.size wa);have Yw:=qe Yi;have HC6:=qe (HC4.out.trans (HB6.out.mono HC4.out.size));clear Yi;go_wp2_with fail
      go_roundw
      case rel=>
       first
        | exact⟨k+1,by omega,by go_num,by rw[HNX.out,Yw.out],HC6⟩
        | (repeat apply Exists.intro
           refine And.intro ?_ ?_
           rotate_left
           ·repeat (first | exact rfl | refine And.intro rfl ?_)
           exact⟨k+1,by omega,by go_num,by rw[HNX.out,Yw.out],HC6⟩)
      case measure=>simp[intOf];omega
     ·go_wp2_with fail;refine(zA x.name HXS.out _).mono ?_;rintro e w5 ⟨rfl,hB5⟩;obtain⟨z0,z1,z2⟩:=HXA.out.keep (hB5.block bx JE.out);simp only[Nat.zero_add]at z1 z2;have HB6:=qe hB5;clear hB5 y0 y1 y2;obtain⟨cb,hcb⟩:∃cb,cb=qo x.name:=⟨_,rfl⟩;rw[← hcb]
      cases cb
      ·have Yi:on=false:=by rw[HON.out,wi.qnB,← hcb];rfl
       clear hcb;have Yw:=qe Yi;have HC6:=qe (HC4.out.trans (HB6.out.mono HC4.out.size));clear Yi;go_wp2_with fail
       go_roundw
       case rel=>
        first
         | exact⟨k+1,by omega,by go_num,by rw[HNX.out,Yw.out],HC6⟩
         | (repeat apply Exists.intro
            refine And.intro ?_ ?_
            rotate_left
            ·repeat (first | exact rfl | refine And.intro rfl ?_)
            exact⟨k+1,by omega,by go_num,by rw[HNX.out,Yw.out],HC6⟩)
       case measure=>simp[intOf];omega
      ·have HC:=qe hcb.symm;clear hcb;by_cases l1:0≤x.typ
       ·have d1:decide (0≤x.typ)=true:=decide_eq_true l1;by_cases m1:x.typ≤65535
        ·have f1:decide (x.typ≤65535)=true:=decide_eq_true m1;have HI1:=qe (show wi.inB x.typ 65535=true from decide_eq_true ⟨l1,m1⟩);clear l1 m1;by_cases l2:0≤x.cls
         ·have d2:decide (0≤x.cls)=true:=decide_eq_true l2;by_cases m2:x.cls≤65535
          ·have f2:decide (x.cls≤65535)=true:=decide_eq_true m2;have HI2:=qe (show wi.inB x.cls 65535=true from decide_eq_true ⟨l2,m2⟩);clear l2 m2;have Yi:on=true:=by rw[HON.out,wi.qnB,HC.out,HI1.out,HI2.out];rfl
           have Yw:=qe Yi;have HC6:=qe (HC4.out.trans (HB6.out.mono HC4.out.size));clear Yi;go_wp2_with fail
           go_roundw
           case rel=>
            first
             | exact⟨k+1,by omega,by go_num,by rw[HNX.out,Yw.out],HC6⟩
             | (repeat apply Exists.intro
                refine And.intro ?_ ?_
                rotate_left
                ·repeat (first | exact rfl | refine And.intro rfl ?_)
                exact⟨k+1,by omega,by go_num,by rw[HNX.out,Yw.out],HC6⟩)
           case measure=>simp[intOf];omega
          ·have f2:decide (x.cls≤65535)=false:=decide_eq_false m2;have Yi:on=false:=by rw[HON.out,wi.qnB,show wi.inB x.cls 65535=false from decide_eq_false fun h=>m2 h.2];simp
           clear l2 m2;have Yw:=qe Yi;have HC6:=qe (HC4.out.trans (HB6.out.mono HC4.out.size));clear Yi;go_wp2_with fail
           go_roundw
           case rel=>
            first
             | exact⟨k+1,by omega,by go_num,by rw[HNX.out,Yw.out],HC6⟩
             | (repeat apply Exists.intro
                refine And.intro ?_ ?_
                rotate_left
                ·repeat (first | exact rfl | refine And.intro rfl ?_)
                exact⟨k+1,by omega,by go_num,by rw[HNX.out,Yw.out],HC6⟩)
           case measure=>simp[intOf];omega
         ·have d2:decide (0≤x.cls)=false:=decide_eq_false l2;have Yi:on=false:=by rw[HON.out,wi.qnB,show wi.inB x.cls 65535=false from decide_eq_false fun h=>l2 h.1];simp
          clear l2;have Yw:=qe Yi;have HC6:=qe (HC4.out.trans (HB6.out.mono HC4.out.size));clear Yi;go_wp2_with fail
          go_roundw
          case rel=>
           first
            | exact⟨k+1,by omega,by go_num,by rw[HNX.out,Yw.out],HC6⟩
            | (repeat apply Exists.intro
               refine And.intro ?_ ?_
               rotate_left
               ·repeat (first | exact rfl | refine And.intro rfl ?_)
               exact⟨k+1,by omega,by go_num,by rw[HNX.out,Yw.out],HC6⟩)
          case measure=>simp[intOf];omega
        ·have f1:decide (x.typ≤65535)=false:=decide_eq_false m1;have Yi:on=false:=by rw[HON.out,wi.qnB,show wi.inB x.typ 65535=false from decide_eq_false fun h=>m1 h.2];simp
         clear l1 m1;have Yw:=qe Yi;have HC6:=qe (HC4.out.trans (HB6.out.mono HC4.out.size));clear Yi;go_wp2_with fail
         go_roundw
         case rel=>
          first
           | exact⟨k+1,by omega,by go_num,by rw[HNX.out,Yw.out],HC6⟩
           | (repeat apply Exists.intro
              refine And.intro ?_ ?_
              rotate_left
              ·repeat (first | exact rfl | refine And.intro rfl ?_)
              exact⟨k+1,by omega,by go_num,by rw[HNX.out,Yw.out],HC6⟩)
         case measure=>simp[intOf];omega
       ·have d1:decide (0≤x.typ)=false:=decide_eq_false l1;have Yi:on=false:=by rw[HON.out,wi.qnB,show wi.inB x.typ 65535=false from decide_eq_false fun h=>l1 h.1];simp
        clear l1;have Yw:=qe Yi;have HC6:=qe (HC4.out.trans (HB6.out.mono HC4.out.size));clear Yi;go_wp2_with fail
        go_roundw
        case rel=>
         first
          | exact⟨k+1,by omega,by go_num,by rw[HNX.out,Yw.out],HC6⟩
          | (repeat apply Exists.intro
             refine And.intro ?_ ?_
             rotate_left
             ·repeat (first | exact rfl | refine And.intro rfl ?_)
             exact⟨k+1,by omega,by go_num,by rw[HNX.out,Yw.out],HC6⟩)
        case measure=>simp[intOf];omega
    ·obtain rfl:k=qs.length:=by omega
     have HE:=qe (show oo=(o2 && qs.all wi.qnB) by rw[HOO.out,List.take_length]);obtain⟨x0,x1,x2,x3,x4,x5,x6,x7,x8,x9,x10,x11,x12,x13⟩:=(HM1.out.below HR.out).facts;clear hlt;go_wp2_with fail;clear x0 x1 x2 x3 x4 x5 x6 x7 x8 x9 x10 x11 x12 x13
     go_loopw [102,3] (fun kv ov wr=>∃k:Nat,k≤an.length∧kv= .int .i64 (k:Int)∧ov= .bool (oo && (an.take k).all wi.qR)∧Hid (Below w1.heap.size w1 wr)) (fun kv _ _=>an.length-(intOf kv).toNat)
     case atStart=>exact⟨0,Nat.zero_le _,rfl,by simp,HR⟩
     case round=>
      obtain⟨k,hk,rfl,rfl,HR⟩:=hrel;obtain⟨w3,hw3⟩:∃X:World,X=wr:=⟨_,rfl⟩;subst hw3;have HB3:=qe (HB1.out.trans (HR.out.mono HB1.out.size));obtain⟨o4,hoo⟩:∃z,z=(oo && (an.take k).all wi.qR):=⟨_,rfl⟩;rw[← hoo];have HOO:=qe hoo;clear hoo;by_cases hlt:k<an.length
      ·have hki:(k:Int)<(an.length:Int):=by omega
       obtain⟨_,_,hv,_,hr0⟩:=HA.out.below HB3.out;simp only[Value.slice.injEq,true_and]at hv;obtain⟨rfl,rfl⟩:=hv;obtain⟨bb,off,rfl,hbl,c0,c1,c2,c3,c4⟩:=hr0 k hlt;obtain⟨x,hx⟩:∃x,x=an[k]:=⟨_,rfl⟩;rw[← hx]at c0 c1 c2 c3 c4;obtain⟨wa,hwa⟩:∃W,W=w3.alloc (.cells (recC x).toArray 80):=⟨_,rfl⟩;obtain⟨hBa,hsa,hxa⟩:=qY w3 wa x hwa;obtain⟨bx,hbx⟩:∃b,b=w3.heap.size:=⟨_,rfl⟩;rw[← hbx]at hxa;obtain⟨x0,x1,x2,x3,x4⟩:=hxa;have hxs:x.owner.size≤1099511627776:=by rw[hx];exact SA.out _ (List.getElem_mem hlt)
       have HWA:=qe hwa;have HBX:=qe hbx;have HXS:=qe hxs;have HNX:=qe (show(oo && (an.take (k+1)).all wi.qR)=(o4 && wi.qR x) by rw[wi.Jy _ hlt,HOO.out,hx,Bool.and_assoc]);have HB4:=qe (HB3.out.trans (hBa.mono HB3.out.size));have HC4:=qe (HR.out.trans (hBa.mono HR.out.size));clear hwa hx hBa hsa hr0 hbl hbx hxs;go_upto_region 11 with fail;rw[← HWA.out,← HBX.out];clear c0 c1 c2 c3 c4
       cases o4
       ·go_wp2_with fail
        go_roundw
        case rel=>
         first
          | exact⟨k+1,by omega,by go_num,by rw[HNX.out];rfl,HC4⟩
          | (repeat apply Exists.intro
             refine And.intro ?_ ?_
             rotate_left
             ·repeat (first | exact rfl | refine And.intro rfl ?_)
             exact⟨k+1,by omega,by go_num,by rw[HNX.out];rfl,HC4⟩)
        case measure=>simp[intOf];omega
       ·go_wp2_with fail;refine(Y7 x HXS.out _).mono ?_;rintro e w5 ⟨rfl,hB5⟩;have HC5:=qe (HC4.out.trans (hB5.mono HC4.out.size));clear hB5 x0 x1 x2 x3 x4;go_wp2_with fail
        go_roundw
        case rel=>
         first
          | exact⟨k+1,by omega,by go_num,by rw[HNX.out];rfl,HC5⟩
          | (repeat apply Exists.intro
             refine And.intro ?_ ?_
             rotate_left
             ·repeat (first | exact rfl | refine And.intro rfl ?_)
             exact⟨k+1,by omega,by go_num,by rw[HNX.out];rfl,HC5⟩)
        case measure=>simp[intOf];omega
      ·obtain rfl:k=an.length:=by omega
       have HE2:=qe (show o4=(oo && an.all wi.qR) by rw[HOO.out,List.take_length]);obtain⟨x0,x1,x2,x3,x4,x5,x6,x7,x8,x9,x10,x11,x12,x13⟩:=(HM1.out.below HR.out).facts;clear hlt;go_wp2_with fail;clear x0 x1 x2 x3 x4 x5 x6 x7 x8 x9 x10 x11 x12 x13
       go_loopw [115,3] (fun kv ov wr=>∃k:Nat,k≤au.length∧kv= .int .i64 (k:Int)∧ov= .bool (o4 && (au.take k).all wi.qR)∧Hid (Below w1.heap.size w1 wr)) (fun kv _ _=>au.length-(intOf kv).toNat)
       case atStart=>exact⟨0,Nat.zero_le _,rfl,by simp,HR⟩
       case round=>
        obtain⟨k,hk,rfl,rfl,HR⟩:=hrel;obtain⟨w3,hw3⟩:∃X:World,X=wr:=⟨_,rfl⟩;subst hw3;have HB3:=qe (HB1.out.trans (HR.out.mono HB1.out.size));obtain⟨o5,hoo⟩:∃z,z=(o4 && (au.take k).all wi.qR):=⟨_,rfl⟩;rw[← hoo];have HOO:=qe hoo;clear hoo;by_cases hlt:k<au.length
        ·have hki:(k:Int)<(au.length:Int):=by omega
         obtain⟨_,_,hv,_,hr0⟩:=HU.out.below HB3.out;simp only[Value.slice.injEq,true_and]at hv;obtain⟨rfl,rfl⟩:=hv;obtain⟨bb,off,rfl,hbl,c0,c1,c2,c3,c4⟩:=hr0 k hlt;obtain⟨x,hx⟩:∃x,x=au[k]:=⟨_,rfl⟩;rw[← hx]at c0 c1 c2 c3 c4;obtain⟨wa,hwa⟩:∃W,W=w3.alloc (.cells (recC x).toArray 80):=⟨_,rfl⟩;obtain⟨hBa,hsa,hxa⟩:=qY w3 wa x hwa;obtain⟨bx,hbx⟩:∃b,b=w3.heap.size:=⟨_,rfl⟩;rw[← hbx]at hxa;obtain⟨x0,x1,x2,x3,x4⟩:=hxa;have hxs:x.owner.size≤1099511627776:=by rw[hx];exact SU.out _ (List.getElem_mem hlt)
         have HWA:=qe hwa;have HBX:=qe hbx;have HXS:=qe hxs;have HNX:=qe (show(o4 && (au.take (k+1)).all wi.qR)=(o5 && wi.qR x) by rw[wi.Jy _ hlt,HOO.out,hx,Bool.and_assoc]);have HB4:=qe (HB3.out.trans (hBa.mono HB3.out.size));have HC4:=qe (HR.out.trans (hBa.mono HR.out.size));clear hwa hx hBa hsa hr0 hbl hbx hxs;go_upto_region 16 with fail;rw[← HWA.out,← HBX.out];clear c0 c1 c2 c3 c4
         cases o5
         ·go_wp2_with fail
          go_roundw
          case rel=>
           first
            | exact⟨k+1,by omega,by go_num,by rw[HNX.out];rfl,HC4⟩
            | (repeat apply Exists.intro
               refine And.intro ?_ ?_
               rotate_left
               ·repeat (first | exact rfl | refine And.intro rfl ?_)
               exact⟨k+1,by omega,by go_num,by rw[HNX.out];rfl,HC4⟩)
          case measure=>simp[intOf];omega
         ·go_wp2_with fail;refine(Y7 x HXS.out _).mono ?_;rintro e w5 ⟨rfl,hB5⟩;have HC5:=qe (HC4.out.trans (hB5.mono HC4.out.size));clear hB5 x0 x1 x2 x3 x4;go_wp2_with fail
          go_roundw
          case rel=>
           first
            | exact⟨k+1,by omega,by go_num,by rw[HNX.out];rfl,HC5⟩
            | (repeat apply Exists.intro
               refine And.intro ?_ ?_
               rotate_left
               ·repeat (first | exact rfl | refine And.intro rfl ?_)
               exact⟨k+1,by omega,by go_num,by rw[HNX.out];rfl,HC5⟩)
          case measure=>simp[intOf];omega
        ·obtain rfl:k=au.length:=by omega
         have HE3:=qe (show o5=(o4 && au.all wi.qR) by rw[HOO.out,List.take_length]);obtain⟨x0,x1,x2,x3,x4,x5,x6,x7,x8,x9,x10,x11,x12,x13⟩:=(HM1.out.below HR.out).facts;clear hlt;go_wp2_with fail;clear x0 x1 x2 x3 x4 x5 x6 x7 x8 x9 x10 x11 x12 x13
         go_loopw [128,3] (fun kv ov wr=>∃k:Nat,k≤ad.length∧kv= .int .i64 (k:Int)∧ov= .bool (o5 && (ad.take k).all wi.qR)∧Hid (Below w1.heap.size w1 wr)) (fun kv _ _=>ad.length-(intOf kv).toNat)
         case atStart=>exact⟨0,Nat.zero_le _,rfl,by simp,HR⟩
         case round=>
          obtain⟨k,hk,rfl,rfl,HR⟩:=hrel;obtain⟨w3,hw3⟩:∃X:World,X=wr:=⟨_,rfl⟩;subst hw3;have HB3:=qe (HB1.out.trans (HR.out.mono HB1.out.size));obtain⟨o6,hoo⟩:∃z,z=(o5 && (ad.take k).all wi.qR):=⟨_,rfl⟩;rw[← hoo];have HOO:=qe hoo;clear hoo;by_cases hlt:k<ad.length
          ·have hki:(k:Int)<(ad.length:Int):=by omega
           obtain⟨_,_,hv,_,hr0⟩:=HD.out.below HB3.out;simp only[Value.slice.injEq,true_and]at hv;obtain⟨rfl,rfl⟩:=hv;obtain⟨bb,off,rfl,hbl,c0,c1,c2,c3,c4⟩:=hr0 k hlt;obtain⟨x,hx⟩:∃x,x=ad[k]:=⟨_,rfl⟩;rw[← hx]at c0 c1 c2 c3 c4;obtain⟨wa,hwa⟩:∃W,W=w3.alloc (.cells (recC x).toArray 80):=⟨_,rfl⟩;obtain⟨hBa,hsa,hxa⟩:=qY w3 wa x hwa;obtain⟨bx,hbx⟩:∃b,b=w3.heap.size:=⟨_,rfl⟩;rw[← hbx]at hxa;obtain⟨x0,x1,x2,x3,x4⟩:=hxa;have hxs:x.owner.size≤1099511627776:=by rw[hx];exact SD.out _ (List.getElem_mem hlt)
           have HWA:=qe hwa;have HBX:=qe hbx;have HXS:=qe hxs;have HNX:=qe (show(o5 && (ad.take (k+1)).all wi.qR)=(o6 && wi.qR x) by rw[wi.Jy _ hlt,HOO.out,hx,Bool.and_assoc]);have HB4:=qe (HB3.out.trans (hBa.mono HB3.out.size));have HC4:=qe (HR.out.trans (hBa.mono HR.out.size));clear hwa hx hBa hsa hr0 hbl hbx hxs;go_upto_region 21 with fail;rw[← HWA.out,← HBX.out];clear c0 c1 c2 c3 c4
           cases o6
           ·go_wp2_with fail
            go_roundw
            case rel=>
             first
              | exact⟨k+1,by omega,by go_num,by rw[HNX.out];rfl,HC4⟩
              | (repeat apply Exists.intro
                 refine And.intro ?_ ?_
                 rotate_left
                 ·repeat (first | exact rfl | refine And.intro rfl ?_)
                 exact⟨k+1,by omega,by go_num,by rw[HNX.out];rfl,HC4⟩)
            case measure=>simp[intOf];omega
           ·go_wp2_with fail;refine(Y7 x HXS.out _).mono ?_;rintro e w5 ⟨rfl,hB5⟩;have HC5:=qe (HC4.out.trans (hB5.mono HC4.out.size));clear hB5 x0 x1 x2 x3 x4;go_wp2_with fail
            go_roundw
            case rel=>
             first
              | exact⟨k+1,by omega,by go_num,by rw[HNX.out];rfl,HC5⟩
              | (repeat apply Exists.intro
                 refine And.intro ?_ ?_
                 rotate_left
                 ·repeat (first | exact rfl | refine And.intro rfl ?_)
                 exact⟨k+1,by omega,by go_num,by rw[HNX.out];rfl,HC5⟩)
            case measure=>simp[intOf];omega
          ·obtain rfl:k=ad.length:=by omega
           have HE4:=qe (show o6=(o5 && ad.all wi.qR) by rw[HOO.out,List.take_length]);obtain⟨x0,x1,x2,x3,x4,x5,x6,x7,x8,x9,x10,x11,x12,x13⟩:=(HM1.out.below HR.out).facts;clear hlt;clear x0 x1 x2 x3 x4 x5 x6 x7 x8 x9 x10 x11 x12 x13;have hm:wi.jE h qs an au ad=o6:=by unfold wi.jE;rw[HE4.out,HE3.out,HE2.out,HE.out,HO2.out,HO1.out]
           cases o6
           ·have HM8:=qe (show wi.okI (wi.jE h qs an au ad)=8 by rw[hm];rfl);clear hm;go_wp2_with fail;go_ret;exact⟨qQ HM8.out.symm,HB3.out⟩
           ·have HM8:=qe (show wi.okI (wi.jE h qs an au ad)=0 by rw[hm];rfl);clear hm;go_wp2_with fail;go_ret;exact⟨qQ HM8.out.symm,HB3.out⟩
theorem info_msg7:(Tryz.prog.info? 33).map (fun i=>(i.zero,i.size,i.bytes))=some (some (yZ hd0 (.slice none 0 0) (.slice none 0 0) (.slice none 0 0) (.slice none 0 0)),14,136):=by kernel_rfl
theorem Ve {w:World}{g n cap c:Nat}{l:List Rec}(h:qm w (.slice (some ⟨g,0,none⟩) n cap) l)(j:Nat){L:List Rec}(hL:j+L.length≤l.length)(he:∀i (h1:i<L.length),L[i]=l[j+i]'(by omega))(hc:L.length≤c):qm w (.slice (some ⟨g,j*5,none⟩) L.length c) L:=by
 obtain⟨a,cap',hv,_,hr⟩:=h;simp only[Value.slice.injEq]at hv;obtain⟨rfl,_,_⟩:=hv;refine⟨_,c,rfl,hc,fun k hk=>?_⟩;obtain⟨b,off,e,hb,hx⟩:=hr (j+k) (by omega);simp only[Option.some.injEq,Addr.mk.injEq,and_true]at e;obtain⟨rfl,rfl⟩:=e;refine⟨g,j*5,rfl,hb,?_⟩;rw[he k hk];have e2:j*5+k*5=0+(j+k)*5:=by omega
 rw[e2];exact hx
theorem part_get {l:List Rec}{k:Nat}:∀i (h1:i<(tr.jF l k).length),(tr.jF l k)[i]=l[k*16+i]'(by unfold tr.jF at h1;rw[List.length_take,List.length_drop]at h1;omega):=fun i h1=>by
 have h2:i<((l.drop (k*16)).take 16).length:=h1;exact(List.getElem_take (h:=h2)).trans List.getElem_drop
theorem part_eq {l:List Rec}{k:Nat}:(tr.jF l k).length=min 16 (l.length-k*16):=by unfold tr.jF;rw[List.length_take,List.length_drop]
def uy (q:Value)(g cap k:Nat):List (Value×Value):=(List.range k).map fun i=>(q,Value.slice (some ⟨g,i*16*5,none⟩) 16 (cap-i*16))
theorem partsV_next (q:Value)(g cap k:Nat):uy q g cap (k+1)=uy q g cap k ++ [(q,Value.slice (some ⟨g,k*16*5,none⟩) 16 (cap-k*16))]:=by
 unfold uy;rw[List.range_succ,List.map_append,List.map_singleton]
theorem kF (q:Value)(g cap k:Nat):(uy q g cap k).length=k:=by unfold uy;simp
def RAnsPost (L:List Msg)(q:Value)(qs:List Qn)(w:World)(e:Ending)(w':World):Prop:=∃v,e= .returned v∧Below w.heap.size w w'∧
 ∀W':World,w'.heap.size≤W'.heap.size→(∀b,w.heap.size≤b→b<w'.heap.size→W'.heap[b]? =w'.heap[b]?)→yu W' q qs→jB W' v L
theorem rans_end {base:Nat}{w:World}{h:Hd}{qs:List Qn}{l:List Rec}{q v:Value}{g n cap i:Nat}(hn:n=l.length)(hl:l.length≤2002)(hg:w.ownsRow base 80 5 (.slice (some ⟨g,0,none⟩) n cap) n (qp l))(hi:i*16<l.length)(hi2:l.length≤i*16+16)
 (ho:w.ownsRow base 33 14 v (uy q g cap i ++ [(q,Value.slice (some ⟨g,i*16*5,none⟩) (n-i*16) (cap-i*16))]).length (uN h (uy q g cap i ++ [(q,Value.slice (some ⟨g,i*16*5,none⟩) (n-i*16) (cap-i*16))])))
 (hq:qs.length≤1000000000000) (W':World) (hk:∀b,base≤b→b<w.heap.size→W'.heap[b]? =w.heap[b]?) (hQ:yu W' q qs):jB W' v (tr.Q3 h qs (tr.jg l (tr.vW l))):=by
 subst hn;have hN:tr.vW l=i+1:=by unfold tr.vW;omega
 have hcap:l.length≤cap:=by
  obtain⟨_,_,hv,hc⟩:=qi hg;simp only[Value.slice.injEq,true_and]at hv;obtain⟨_,rfl⟩:=hv;exact hc
 have hR:qm W' (.slice (some ⟨g,0,none⟩) l.length cap) l:=qD (qj hg fun b hb=>hk b (hg.lt b hb).1 (hg.lt b hb).2);have hO:=qj ho fun b hb=>hk b (ho.lt b hb).1 (ho.lt b hb).2;rw[hN];have hlen:(uy q g cap i ++ [(q,Value.slice (some ⟨g,i*16*5,none⟩) (l.length-i*16) (cap-i*16))]).length=i+1:=by rw[List.length_append,kF];rfl
 refine msgs_row (by rw[hlen,tr.Yc]) hO (fun k hk=>?_) (fun k hk hk2=>?_) hq (fun p hp=>?_)
 ·rw[hlen]at hk;by_cases e:k<i
  ·rw[List.getElem_append_left (by rw[kF];exact e)];unfold uy;rw[List.getElem_map];exact hQ
  ·rw[List.getElem_append_right (by rw[kF];omega)];simp only[List.getElem_singleton];exact hQ
 ·rw[hlen]at hk;have e3:(tr.jg l (i+1))[k]=tr.jF l k:=by
   have h2:k<((List.range (i+1)).map (tr.jF l)).length:=hk2;exact(List.getElem_map (h:=h2) ..).trans (by rw[List.getElem_range])
  rw[e3];have e4:=part_eq (l:=l) (k:=k);by_cases e:k<i
  ·rw[List.getElem_append_left (by rw[kF];exact e)];unfold uy;rw[List.getElem_map,List.getElem_range];have h1:(tr.jF l k).length=16:=by omega
   have:=Ve hR (k*16) (L:=tr.jF l k) (c:=cap-k*16) (by omega) (fun i h=>part_get i h) (by omega);rw[h1]at this;exact this
  ·have ek:k=i:=by omega
   subst ek;rw[List.getElem_append_right (by rw[kF];omega)];simp only[List.getElem_singleton];have h1:(tr.jF l k).length=l.length-k*16:=by omega
   have:=Ve hR (k*16) (L:=tr.jF l k) (c:=cap-k*16) (by omega) (fun i h=>part_get i h) (by omega);rw[h1]at this;exact this
 ·unfold tr.jg at hp;obtain⟨j,_,rfl⟩:=List.mem_map.1 hp;have:=tr.Jb l j;omega
theorem rans_nil {base:Nat}{w:World}{h:Hd}{qs:List Qn}{q v:Value}{a3:Option Addr}{c3:Nat}(ho:w.ownsRow base 33 14 v [(q,Value.slice a3 0 c3)].length (uN h [(q,Value.slice a3 0 c3)]))
 (hq:qs.length≤1000000000000) (W':World) (hk:∀b,base≤b→b<w.heap.size→W'.heap[b]? =w.heap[b]?) (hQ:yu W' q qs):jB W' v (tr.Q3 h qs (tr.jg [] (tr.vW []))):=by
 have hO:=qj ho fun b hb=>hk b (ho.lt b hb).1 (ho.lt b hb).2;have hN:tr.vW []=1:=rfl;rw[hN];refine msgs_row (by rw[tr.Yc];rfl) hO (fun k hk=>?_) (fun k hk hk2=>?_) hq (fun p hp=>?_)
 ·simp only[List.length_singleton]at hk;obtain rfl:k=0:=by omega
  exact hQ
 ·simp only[List.length_singleton]at hk;obtain rfl:k=0:=by omega
  exact⟨a3,c3,rfl,Nat.zero_le _,fun _ h=>absurd h (Nat.not_lt_zero _)⟩
 ·unfold tr.jg at hp;obtain⟨j,_,rfl⟩:=List.mem_map.1 hp;have:=tr.Jb [] j;omega
def sliceLen:Value→Nat
 | .slice _ n _=>n
 | _=>0
theorem ransw_any (v:Value)(ys:List Nat)(H:List tr.Zn)(h0:0<ys.length)(h8:ys.length≤8)(hi:Int)(rs:Bool)(op:Int)(b3 b4 b5 b6 b7 b8:Bool)(rc:Int)(qs:List Qn)(an au ad:List Rec)
 (hq:qs.length≤1000000000000) (ha:an.length≤1000000000000) (hu:au.length≤1000000000000) (hd:ad.length≤1000000000000)
 (sq:∀x∈qs,x.name.size≤1099511627776) (sa:∀x∈an,x.owner.size≤1099511627776) (su:∀x∈au,x.owner.size≤1099511627776) (sd:∀x∈ad,x.owner.size≤1099511627776)
 (q a u d:Value) (w:World) (hh:uW w v ys) (hz:Zg w ys H) (rq:yu w q qs) (ra:qm w a an) (ru:qm w u au) (rd:qm w d ad):
 Calls Tryz.prog 12 #[v,yZ ⟨hi,rs,op,b3,b4,b5,b6,b7,b8,rc⟩ q a u d] w fun e w'=>RAnsPost (tr.uV H ⟨⟨hi,rs,op,b3,b4,b5,b6,b7,b8,rc⟩,qs,an,au,ad⟩) q qs w e w':=by
 obtain⟨w1,hw1⟩:∃X,X=w.alloc (.cells (yG ⟨hi,rs,op,b3,b4,b5,b6,b7,b8,rc⟩ q a u d).toArray 33):=⟨_,rfl⟩;obtain⟨hB1,hs1,hm1⟩:=zC hw1;obtain⟨bm,hbm⟩:∃b,b=w.heap.size:=⟨_,rfl⟩;rw[← hbm]at hm1;have hnil:RAnsPost [] q qs w (.returned (.slice none 0 0)) w1:=⟨_,rfl,hB1,fun W' _ _ _=>⟨none,0,rfl,Nat.le_refl _,fun _ h=>absurd h (Nat.not_lt_zero _)⟩⟩;have hsm:(tr.qN H).l.length≤2000:=by
  have h1:=hz.1;unfold tr.qN;rw[tr.uL (by omega)];exact(hz.2 (H.length-1) (by omega) (by omega)).1.small
 have hrf:=tr.X6 H op qs au hsm;have HCK:=qe (rwcheck_any ⟨hi,rs,op,b3,b4,b5,b6,b7,b8,rc⟩ qs an au ad hq ha hu hd q a u d w1 sq sa su sd (rq.below hB1) (ra.below hB1) (ru.below hB1) (rd.below hB1));have HRW:=qe (show wi.jE ⟨hi,rs,op,b3,b4,b5,b6,b7,b8,rc⟩ qs an au ad=true→∀X,Below w.heap.size w X→Calls Tryz.prog 41 #[v,yZ ⟨hi,rs,op,b3,b4,b5,b6,b7,b8,rc⟩ q a u d] X fun e w'=>QN (tr.zL H op qs au) X e w' from fun hmb X hX=>
  rrow_any v ys H h0 h8 hi rs op b3 b4 b5 b6 b7 b8 rc qs an au ad hmb q a u d X (hh.below hX) (hz.below hX) (rq.below hX) (ra.below hX) (ru.below hX) (rd.below hX))
 obtain⟨g,off,cap,rfl,-⟩:=id hh;obtain⟨qa,qc,hqv,-⟩:=id rq;obtain⟨aa,ac,rfl,-⟩:=id ra;obtain⟨ua,uc,rfl,-⟩:=id ru;obtain⟨da,dc,rfl,-⟩:=id rd;subst hqv;obtain⟨i0,hi0,hz0,hz1,hz2⟩:=Qi info_msg7;have HI:=qe hi0;have HZ:=qe hz0;have HZ1:=qe hz1;have HZ2:=qe hz2;have HM:=qe hm1;have HW1:=qe hw1;have HBM:=qe hbm;have HB1:=qe hB1;have HNIL:=qe hnil;have HRF:=qe hrf;have HQL:=qe hq;clear hw1 hB1 hs1 hm1 hbm hnil hsm hrf hh hz rq ra ru rd sq sa su sd hq ha hu hd h0 h8 hi0 hz0 hz1 hz2;obtain⟨m0,m1,m2,m3,m4,m5,m6,m7,m8,m9,m10,m11,m12,m13⟩:=HM.out.facts
 go_enter Tryz.func12,Tryz.ntmps12
 go_upto_region 1 with fail;rw[← HW1.out,← HBM.out]
 cases rs
 ·obtain⟨mb,hmb⟩:∃b,b=wi.jE ⟨hi,false,op,b3,b4,b5,b6,b7,b8,rc⟩ qs an au ad:=⟨_,rfl⟩;rw[← hmb]at HCK HRW;have HMBB:=qe hmb;clear hmb;go_wp2_with fail;refine HCK.out.mono ?_;rintro e w2 ⟨rfl,hB2⟩;have HB2:=qe hB2;have xW:=qe (HB1.out.trans (hB2.mono HB1.out.size));clear hB2 m0 m1 m2 m3 m4 m5 m6 m7 m8 m9 m10 m11 m12 m13
  cases mb
  ·have HL:=qe (show tr.uV H ⟨⟨hi,false,op,b3,b4,b5,b6,b7,b8,rc⟩,qs,an,au,ad⟩= [] from if_pos (.inr HMBB.out.symm));have d0:(wi.okI false != 0)=true:=rfl;go_wp2_with fail;go_ret;rw[HL.out];exact⟨_,rfl,xW.out,fun W' _ _ _=>⟨none,0,rfl,Nat.le_refl _,fun _ h=>absurd h (Nat.not_lt_zero _)⟩⟩
  ·have HL:=qe (show tr.uV H ⟨⟨hi,false,op,b3,b4,b5,b6,b7,b8,rc⟩,qs,an,au,ad⟩=tr.Q3 (hdA ⟨hi,false,op,b3,b4,b5,b6,b7,b8,rc⟩ ((tr.zL H op qs au).2 == 0) (tr.zL H op qs au).2) qs (tr.jg (tr.zL H op qs au).1 (tr.vW (tr.zL H op qs au).1)) from if_neg (by rw[← HMBB.out];simp));have d0:(wi.okI true != 0)=false:=rfl;obtain⟨m0,m1,m2,m3,m4,m5,m6,m7,m8,m9,m10,m11,m12,m13⟩:=(HM.out.below HB2.out).facts;go_wp2_with fail;refine(HRW.out (by trivial) w2 xW.out).mono ?_;rintro e w3 ⟨v3,rfl,hB3,hO3⟩;obtain⟨R,hR⟩:∃R,R=(tr.zL H op qs au).1:=⟨_,rfl⟩;obtain⟨c,hc⟩:∃c,c=(tr.zL H op qs au).2:=⟨_,rfl⟩;rw[← hR,← hc]at HL HRF;rw[← hR]at hO3;rw[← hc];obtain⟨t,ht⟩:∃t,t=(c == 0):=⟨_,rfl⟩;have hct:(c == 0)=t:=ht.symm;have hcd:decide (c=0)=t:=by rw[ht];exact(Bool.beq_eq_decide_eq ..).symm
   obtain⟨hd,hhd⟩:∃x,x=hdA ⟨hi,false,op,b3,b4,b5,b6,b7,b8,rc⟩ t c:=⟨_,rfl⟩;rw[← ht,← hhd]at HL;obtain⟨a3,c3,rfl,-⟩:=qi hO3;obtain⟨w4,hw4⟩:∃X,X=w3.alloc (.cells (yG hd (.slice qa qs.length qc) (.slice none 0 0) (.slice none 0 0) (.slice none 0 0)).toArray 33):=⟨_,rfl⟩;obtain⟨hB4,hs4,hm4⟩:=zC hw4;obtain⟨b7',hb7⟩:∃b,b=w3.heap.size:=⟨_,rfl⟩;rw[← hb7]at hm4;have um:=qe (xW.out.trans (hB3.mono xW.out.size));have jk:=qe (um.out.trans (hB4.mono um.out.size));have HO4:=qe (ownsRow_below (qG hO3 xW.out.size) hB4);have HM4:=qe hm4;have XA:=qe (show w.heap.size≤b7'∧b7'<w4.heap.size by have:=um.out.size;omega);have HNE7:=qe (show ∀b,(Value.slice a3 R.length c3).ownBlock=some b→b≠b7'∧b<w4.heap.size from fun b hb=>by have:=(hO3.lt b hb).2;exact⟨by omega,by omega⟩);have HMF:=qe (HM.out.below (HB2.out.trans (hB3.mono HB2.out.size)));rw[hhd]at hw4;have HW4:=qe hw4;have HB7:=qe hb7;have HHD:=qe hhd;clear hhd hR hc ht hB3 hO3 hB4 hs4 hm4 hb7 hw4 m0 m1 m2 m3 m4 m5 m6 m7 m8 m9 m10 m11 m12 m13;obtain⟨m0,m1,m2,m3,m4,m5,m6,m7,m8,m9,m10,m11,m12,m13⟩:=HMF.out.facts;go_upto_region 5 with fail;rw[← HW4.out,← HB7.out];clear m0 m1 m2 m3 m4 m5 m6 m7 m8 m9 m10 m11 m12 m13 d0 hct hcd;rcases HRF.out with⟨hc0,hne,hlen⟩|⟨hnc,hnil⟩
   ·have hpos:=List.length_pos_iff.2 hne;obtain⟨g3,cap3,hv,-,-⟩:=HO4.out.form hpos;simp only[Value.slice.injEq,true_and]at hv;obtain⟨rfl,rfl⟩:=hv;have HLEN:=qe hlen;have HPOS:=qe hpos;have HCAP:=qe (show R.length≤c3 by
     obtain⟨_,_,hv,hc⟩:=qi HO4.out;simp only[Value.slice.injEq,true_and]at hv;obtain⟨_,rfl⟩:=hv;exact hc)
    clear hc0 hne hlen hpos;go_wp2_with fail
    go_loopw [5,8] (fun lv ov wr=>∃i:Nat,i*16<R.length∧lv= .slice (some ⟨g3,i*16*5,none⟩) (R.length-i*16) (c3-i*16)∧(∃oa oc,ov= .slice oa i oc∧Hid (wr.ownsRow w4.heap.size 33 14 (.slice oa i oc) i (uN hd (uy (.slice qa qs.length qc) g3 c3 i))))∧
     (∃x,Hid (qy wr b7' hd (.slice qa qs.length qc) x (.slice none 0 0) (.slice none 0 0)))∧Hid (∀b,b<w4.heap.size→b≠b7'→wr.heap[b]? =w4.heap[b]?)∧Hid (w4.heap.size≤wr.heap.size)∧Hid (Below w.heap.size w wr)) (fun lv _ _=>sliceLen lv)
    case atStart=>exact⟨0,by have:=HPOS.out;omega,by simp,⟨none,0,rfl,qe (World.ownsRow_nil _ _ _ _)⟩,⟨_,HM4⟩,qe (fun _ _ _=>rfl),qe (Nat.le_refl _),jk⟩
    case round=>
     obtain⟨i,hi,rfl,⟨oa,oc,rfl,HO⟩,⟨x,HM7⟩,HK,HS4,HBW⟩:=hrel;have HI2:=qe hi;obtain⟨r,hr⟩:∃r,r=R.length-i*16:=⟨_,rfl⟩;obtain⟨cp,hcp⟩:∃r,r=c3-i*16:=⟨_,rfl⟩;obtain⟨of,hof⟩:∃r,r=i*16*5:=⟨_,rfl⟩;rw[← hr,← hcp,← hof];have hrc:r≤cp:=by have:=HCAP.out;omega
     have HR:=qe hr;have HCP:=qe hcp;have HOF:=qe hof;by_cases hgt:16<r
     ·have d1:decide ((16:Int)<(r:Int))=true:=decide_eq_true (by omega);have i1:16≤cp:=by omega
      have i2:16≤r:=by omega
      have i3:¬(cp=16):=by omega
      have HGT:=qe hgt;obtain⟨wa,hwa⟩:∃X,X=wr.setCell ⟨b7',11,none⟩ (Value.slice (some ⟨g3,of,none⟩) 16 cp):=⟨_,rfl⟩;have hma:qy wa b7' hd (Value.slice qa qs.length qc) (Value.slice (some ⟨g3,of,none⟩) 16 cp) (.slice none 0 0) (.slice none 0 0):=by rw[hwa];exact HM7.out.set11 _
      obtain⟨wb,hwb⟩:∃X,X=wa.alloc (.cells (yG hd (Value.slice qa qs.length qc) (Value.slice (some ⟨g3,of,none⟩) 16 cp) (.slice none 0 0) (.slice none 0 0)).toArray 33):=⟨_,rfl⟩;obtain⟨hBb,hsb,-⟩:=zC hwb;have hsa:wa.heap.size=wr.heap.size:=by rw[hwa];simp
      obtain⟨gb,hgb⟩:∃b,b=wr.heap.size:=⟨_,rfl⟩;have kR:=qe (show ∀j u,(yG hd (Value.slice qa qs.length qc) (Value.slice (some ⟨g3,of,none⟩) 16 cp) (.slice none 0 0) (.slice none 0 0))[j]? =some u→wb.cell? ((⟨gb,0,none⟩:Addr).add j)=some u by rw[hwb,hgb,← hsa];exact j3 wa _ _);have HOB:=qe (show wb.ownsRow w4.heap.size 33 14 (.slice oa i oc) i (uN hd (uy (Value.slice qa qs.length qc) g3 c3 i)) from ownsRow_below (qj HO.out fun b hb=>by rw[hwa];exact Below.heap_setCell _ _ _ _ (fun e=>by have h1:=(HO.out.lt b hb).1;have h2:=XA.out.2;have h3:b=b7':=e;omega)) hBb);have HKB:=qe (show ∀b,b<w4.heap.size→b≠b7'→wb.heap[b]? =w4.heap[b]? from fun b h1 h2=>by
       have h3:=HS4.out;rw[hBb.block b (by omega),hwa,Below.heap_setCell _ _ _ _ h2];exact HK.out b h1 h2)
      have HMB:=qe (show qy wb b7' hd (Value.slice qa qs.length qc) (Value.slice (some ⟨g3,of,none⟩) 16 cp) (.slice none 0 0) (.slice none 0 0) from hma.below hBb);have P1:=qe (show i+1≤maxLen by have h1:i≤1000:=(by have:=HI2.out;have:=HLEN.out;omega);unfold maxLen;omega);have P2:=qe (show(i+1)*136≤140737488355328 by have h1:i≤1000:=(by have:=HI2.out;have:=HLEN.out;omega);omega);have P3:=qe (show w4.heap.size≤wb.heap.size by have:=HS4.out;omega);have HSB:=qe (show wr.heap.size+1=wb.heap.size by omega);have HBB:=qe (show Below w.heap.size w wb by rw[hwb,hwa];exact(HBW.out.setCell (p:=⟨b7',11,none⟩) XA.out.1 _).alloc (by have:=HBW.out.size;simp;exact this) _);obtain⟨n0,n1,n2,n3,n4,n5,n6,n7,n8,n9,n10,n11,n12,n13⟩:=qy.facts hma;have HWA:=qe hwa;have HWB:=qe hwb;have HGB:=qe hgb;have f11:=qy.free HM7.out 11;have x11:=(qy.facts HM7.out).2.2.2.2.2.2.2.2.2.2.2.1;rw[hwa]at n0 n1 n2 n3 n4 n5 n6 n7 n8 n9 n10 n11 n12 n13;clear hwa hma hwb hBb hsb hgb hsa;clear hr hcp hof hgt;go_wp2_with (at_builtin;rw[← HWA.out,← HGB.out,← HWB.out];refine qJ _ rfl _ _ 23 rfl w4.heap.size 33 i0 (yZ hd0 (.slice none 0 0) (.slice none 0 0) (.slice none 0 0) (.slice none 0 0)) 14 136 Tryz.underlying23 HI.out HZ.out HZ1.out HZ2.out rfl (by decide) _ _ _ rfl HOB.out ⟨gb,0,none⟩ 1 1 (yG hd (Value.slice qa qs.length qc) (Value.slice (some ⟨g3,of,none⟩) 16 cp) (.slice none 0 0) (.slice none 0 0)) rfl rfl kR.out (by simp[Value.oneCell']) P1.out P2.out P3.out ?_);intro v9 w9 Jl hg9 hn9;have HOW9:=qe (show w9.ownsRow w4.heap.size 33 14 v9 ((uy (Value.slice qa qs.length qc) g3 c3 i) ++ [((Value.slice qa qs.length qc),(Value.slice (some ⟨g3,of,none⟩) 16 cp))]).length (uN hd ((uy (Value.slice qa qs.length qc) g3 c3 i) ++ [((Value.slice qa qs.length qc),(Value.slice (some ⟨g3,of,none⟩) 16 cp))])) by rw[JS,List.length_append,List.length_singleton,kF];exact Jl);have HS9:=qe (show w4.heap.size≤w9.heap.size by have:=hg9.size;have:=P3.out;omega);have HK9:=qe (show ∀b,b<w4.heap.size→b≠b7'→w9.heap[b]? =w4.heap[b]? from fun b h1 h2=>(hg9.block b (by have:=P3.out;omega) (fun e=>by have:=(HOB.out.lt b e.symm).1;omega)).trans (HKB.out b h1 h2));have HM9:=qe (show qy w9 b7' hd (Value.slice qa qs.length qc) (Value.slice (some ⟨g3,of,none⟩) 16 cp) (.slice none 0 0) (.slice none 0 0) from(hg9.block b7' (by have:=P3.out;have:=XA.out.2;omega) (fun e=>by have:=(HOB.out.lt b7' e.symm).1;have:=XA.out.2;omega)).trans HMB.out);have HB9:=qe (HBB.out.grown hg9 HBB.out.size (fun j hj=>Nat.le_trans jk.out.size (HOB.out.lt j hj).1));clear Jl hg9 hn9 n0 n1 n2 n3 n4 n5 n6 n7 n8 n9 n10 n11 n12 n13 f11 x11 kR HOB HKB HMB P1 P2 P3 HSB HWA HWB HGB;obtain⟨a9,c9,rfl,-⟩:=qi HOW9.out;go_wp2_with fail
      go_roundw
      case rel=>
       have h1:=HR.out;have h2:=HCP.out;have h3:=HOF.out;have h4:=HGT.out;refine⟨i+1,by omega,?_,⟨a9,c9,?_,qe ?_⟩,⟨_,HM9⟩,HK9,HS9,HB9⟩
       ·congr 1 <;> (first | omega | (congr 2;omega))
       ·rw[List.length_append,kF];rfl
       ·have h5:=HOW9.out;rw[h2,h3,← partsV_next,kF]at h5;exact h5
      case measure=>simp[sliceLen];have:=HGT.out;omega
     ·have d1:decide ((16:Int)<(r:Int))=false:=decide_eq_false (by omega);have HGT:=qe hgt;obtain⟨wa,hwa⟩:∃X,X=wr.setCell ⟨b7',11,none⟩ (Value.slice (some ⟨g3,of,none⟩) r cp):=⟨_,rfl⟩;have hma:qy wa b7' hd (Value.slice qa qs.length qc) (Value.slice (some ⟨g3,of,none⟩) r cp) (.slice none 0 0) (.slice none 0 0):=by rw[hwa];exact HM7.out.set11 _
      obtain⟨wb,hwb⟩:∃X,X=wa.alloc (.cells (yG hd (Value.slice qa qs.length qc) (Value.slice (some ⟨g3,of,none⟩) r cp) (.slice none 0 0) (.slice none 0 0)).toArray 33):=⟨_,rfl⟩;obtain⟨hBb,hsb,-⟩:=zC hwb;have hsa:wa.heap.size=wr.heap.size:=by rw[hwa];simp
      obtain⟨gb,hgb⟩:∃b,b=wr.heap.size:=⟨_,rfl⟩;have kR:=qe (show ∀j u,(yG hd (Value.slice qa qs.length qc) (Value.slice (some ⟨g3,of,none⟩) r cp) (.slice none 0 0) (.slice none 0 0))[j]? =some u→wb.cell? ((⟨gb,0,none⟩:Addr).add j)=some u by rw[hwb,hgb,← hsa];exact j3 wa _ _);have HOB:=qe (show wb.ownsRow w4.heap.size 33 14 (.slice oa i oc) i (uN hd (uy (Value.slice qa qs.length qc) g3 c3 i)) from ownsRow_below (qj HO.out fun b hb=>by rw[hwa];exact Below.heap_setCell _ _ _ _ (fun e=>by have h1:=(HO.out.lt b hb).1;have h2:=XA.out.2;have h3:b=b7':=e;omega)) hBb);have HKB:=qe (show ∀b,b<w4.heap.size→b≠b7'→wb.heap[b]? =w4.heap[b]? from fun b h1 h2=>by
       have h3:=HS4.out;rw[hBb.block b (by omega),hwa,Below.heap_setCell _ _ _ _ h2];exact HK.out b h1 h2)
      have HMB:=qe (show qy wb b7' hd (Value.slice qa qs.length qc) (Value.slice (some ⟨g3,of,none⟩) r cp) (.slice none 0 0) (.slice none 0 0) from hma.below hBb);have P1:=qe (show i+1≤maxLen by have h1:i≤1000:=(by have:=HI2.out;have:=HLEN.out;omega);unfold maxLen;omega);have P2:=qe (show(i+1)*136≤140737488355328 by have h1:i≤1000:=(by have:=HI2.out;have:=HLEN.out;omega);omega);have P3:=qe (show w4.heap.size≤wb.heap.size by have:=HS4.out;omega);have HSB:=qe (show wr.heap.size+1=wb.heap.size by omega);have HBB:=qe (show Below w.heap.size w wb by rw[hwb,hwa];exact(HBW.out.setCell (p:=⟨b7',11,none⟩) XA.out.1 _).alloc (by have:=HBW.out.size;simp;exact this) _);obtain⟨n0,n1,n2,n3,n4,n5,n6,n7,n8,n9,n10,n11,n12,n13⟩:=qy.facts hma;have HWA:=qe hwa;have HWB:=qe hwb;have HGB:=qe hgb;have f11:=qy.free HM7.out 11;have x11:=(qy.facts HM7.out).2.2.2.2.2.2.2.2.2.2.2.1;rw[hwa]at n0 n1 n2 n3 n4 n5 n6 n7 n8 n9 n10 n11 n12 n13;clear hwa hma hwb hBb hsb hgb hsa;clear hr hcp hof hgt;go_wp2_with (at_builtin;rw[← HWA.out,← HGB.out,← HWB.out];refine qJ _ rfl _ _ 23 rfl w4.heap.size 33 i0 (yZ hd0 (.slice none 0 0) (.slice none 0 0) (.slice none 0 0) (.slice none 0 0)) 14 136 Tryz.underlying23 HI.out HZ.out HZ1.out HZ2.out rfl (by decide) _ _ _ rfl HOB.out ⟨gb,0,none⟩ 1 1 (yG hd (Value.slice qa qs.length qc) (Value.slice (some ⟨g3,of,none⟩) r cp) (.slice none 0 0) (.slice none 0 0)) rfl rfl kR.out (by simp[Value.oneCell']) P1.out P2.out P3.out ?_);intro v9 w9 Jl hg9 hn9;have HOW9:=qe (show w9.ownsRow w4.heap.size 33 14 v9 ((uy (Value.slice qa qs.length qc) g3 c3 i) ++ [((Value.slice qa qs.length qc),(Value.slice (some ⟨g3,of,none⟩) r cp))]).length (uN hd ((uy (Value.slice qa qs.length qc) g3 c3 i) ++ [((Value.slice qa qs.length qc),(Value.slice (some ⟨g3,of,none⟩) r cp))])) by rw[JS,List.length_append,List.length_singleton,kF];exact Jl);have HS9:=qe (show w4.heap.size≤w9.heap.size by have:=hg9.size;have:=P3.out;omega);have HK9:=qe (show ∀b,b<w4.heap.size→b≠b7'→w9.heap[b]? =w4.heap[b]? from fun b h1 h2=>(hg9.block b (by have:=P3.out;omega) (fun e=>by have:=(HOB.out.lt b e.symm).1;omega)).trans (HKB.out b h1 h2));have HM9:=qe (show qy w9 b7' hd (Value.slice qa qs.length qc) (Value.slice (some ⟨g3,of,none⟩) r cp) (.slice none 0 0) (.slice none 0 0) from(hg9.block b7' (by have:=P3.out;have:=XA.out.2;omega) (fun e=>by have:=(HOB.out.lt b7' e.symm).1;have:=XA.out.2;omega)).trans HMB.out);have HB9:=qe (HBB.out.grown hg9 HBB.out.size (fun j hj=>Nat.le_trans jk.out.size (HOB.out.lt j hj).1));clear Jl hg9 hn9 n0 n1 n2 n3 n4 n5 n6 n7 n8 n9 n10 n11 n12 n13 f11 x11 kR HOB HKB HMB P1 P2 P3 HSB HWA HWB HGB;go_wp2_with fail;go_ret;rw[HL.out];refine⟨_,rfl,HB9.out,fun W' _ hk hQ=>?_⟩;have h5:=qG HOW9.out jk.out.size;rw[HR.out,HCP.out,HOF.out]at h5;have h6:=HR.out;have h7:=HGT.out;exact rans_end rfl HLEN.out (qj HO4.out fun b hb=>HK9.out b (HNE7.out b hb).2 (HNE7.out b hb).1) HI2.out (by omega) h5 HQL.out W' hk hQ
   ·subst hnil;clear hnc;go_wp2_with fail;have d1:decide ((16:Int)<((0:Nat):Int))=false:=rfl
    go_loopw [5,8] (fun lv ov wr=>lv= .slice a3 0 c3∧ov= .slice none 0 0∧Hid (wr=w4)) (fun lv _ _=>0)
    case atStart=>exact⟨rfl,rfl,qe rfl⟩
    case round=>
     obtain⟨rfl,rfl,HE⟩:=hrel;have HM7:=qe (show qy wr b7' hd (Value.slice qa qs.length qc) (Value.slice none 0 0) (.slice none 0 0) (.slice none 0 0) by rw[HE.out];exact HM4.out);have HK:=qe (show ∀b,b<w4.heap.size→b≠b7'→wr.heap[b]? =w4.heap[b]? from fun b _ _=>by rw[HE.out]);have HS4:=qe (show w4.heap.size≤wr.heap.size by rw[HE.out];exact Nat.le_refl _);have HBW:=qe (show Below w.heap.size w wr by rw[HE.out];exact jk.out);obtain⟨oa,hoa⟩:∃o:Option Addr,o=none:=⟨_,rfl⟩;obtain⟨oc,hoc⟩:∃o:Nat,o=0:=⟨_,rfl⟩;have HO:=qe (show wr.ownsRow w4.heap.size 33 14 (.slice oa 0 oc) 0 (uN hd []) by rw[hoa,hoc];exact World.ownsRow_nil _ _ _ _);rw[show(Value.slice none 0 0)=Value.slice oa 0 oc by rw[hoa,hoc]];clear hoa hoc;obtain⟨wa,hwa⟩:∃X,X=wr.setCell ⟨b7',11,none⟩ (Value.slice a3 0 c3):=⟨_,rfl⟩;have hma:qy wa b7' hd (Value.slice qa qs.length qc) (Value.slice a3 0 c3) (.slice none 0 0) (.slice none 0 0):=by rw[hwa];exact HM7.out.set11 _
     obtain⟨wb,hwb⟩:∃X,X=wa.alloc (.cells (yG hd (Value.slice qa qs.length qc) (Value.slice a3 0 c3) (.slice none 0 0) (.slice none 0 0)).toArray 33):=⟨_,rfl⟩;obtain⟨hBb,hsb,-⟩:=zC hwb;have hsa:wa.heap.size=wr.heap.size:=by rw[hwa];simp
     obtain⟨gb,hgb⟩:∃b,b=wr.heap.size:=⟨_,rfl⟩;have kR:=qe (show ∀j u,(yG hd (Value.slice qa qs.length qc) (Value.slice a3 0 c3) (.slice none 0 0) (.slice none 0 0))[j]? =some u→wb.cell? ((⟨gb,0,none⟩:Addr).add j)=some u by rw[hwb,hgb,← hsa];exact j3 wa _ _);have HOB:=qe (show wb.ownsRow w4.heap.size 33 14 (.slice oa 0 oc) 0 (uN hd ([]:List (Value×Value))) from ownsRow_below (qj HO.out fun b hb=>by rw[hwa];exact Below.heap_setCell _ _ _ _ (fun e=>by have h1:=(HO.out.lt b hb).1;have h2:=XA.out.2;have h3:b=b7':=e;omega)) hBb);have HKB:=qe (show ∀b,b<w4.heap.size→b≠b7'→wb.heap[b]? =w4.heap[b]? from fun b h1 h2=>by
      have h3:=HS4.out;rw[hBb.block b (by omega),hwa,Below.heap_setCell _ _ _ _ h2];exact HK.out b h1 h2)
     have HMB:=qe (show qy wb b7' hd (Value.slice qa qs.length qc) (Value.slice a3 0 c3) (.slice none 0 0) (.slice none 0 0) from hma.below hBb);have P1:=qe (show 0+1≤maxLen by have h1:0≤1000:=(by omega);unfold maxLen;omega);have P2:=qe (show(0+1)*136≤140737488355328 by have h1:0≤1000:=(by omega);omega);have P3:=qe (show w4.heap.size≤wb.heap.size by have:=HS4.out;omega);have HSB:=qe (show wr.heap.size+1=wb.heap.size by omega);have HBB:=qe (show Below w.heap.size w wb by rw[hwb,hwa];exact(HBW.out.setCell (p:=⟨b7',11,none⟩) XA.out.1 _).alloc (by have:=HBW.out.size;simp;exact this) _);obtain⟨n0,n1,n2,n3,n4,n5,n6,n7,n8,n9,n10,n11,n12,n13⟩:=qy.facts hma;have HWA:=qe hwa;have HWB:=qe hwb;have HGB:=qe hgb;have f11:=qy.free HM7.out 11;have x11:=(qy.facts HM7.out).2.2.2.2.2.2.2.2.2.2.2.1;rw[hwa]at n0 n1 n2 n3 n4 n5 n6 n7 n8 n9 n10 n11 n12 n13;clear hwa hma hwb hBb hsb hgb hsa;go_wp2_with (at_builtin;rw[← HWA.out,← HGB.out,← HWB.out];refine qJ _ rfl _ _ 23 rfl w4.heap.size 33 i0 (yZ hd0 (.slice none 0 0) (.slice none 0 0) (.slice none 0 0) (.slice none 0 0)) 14 136 Tryz.underlying23 HI.out HZ.out HZ1.out HZ2.out rfl (by decide) _ _ _ rfl HOB.out ⟨gb,0,none⟩ 1 1 (yG hd (Value.slice qa qs.length qc) (Value.slice a3 0 c3) (.slice none 0 0) (.slice none 0 0)) rfl rfl kR.out (by simp[Value.oneCell']) P1.out P2.out P3.out ?_);intro v9 w9 Jl hg9 hn9;have HOW9:=qe (show w9.ownsRow w4.heap.size 33 14 v9 (([]:List (Value×Value)) ++ [((Value.slice qa qs.length qc),(Value.slice a3 0 c3))]).length (uN hd (([]:List (Value×Value)) ++ [((Value.slice qa qs.length qc),(Value.slice a3 0 c3))])) by rw[JS,List.length_append,List.length_singleton,List.length_nil];exact Jl);have HS9:=qe (show w4.heap.size≤w9.heap.size by have:=hg9.size;have:=P3.out;omega);have HK9:=qe (show ∀b,b<w4.heap.size→b≠b7'→w9.heap[b]? =w4.heap[b]? from fun b h1 h2=>(hg9.block b (by have:=P3.out;omega) (fun e=>by have:=(HOB.out.lt b e.symm).1;omega)).trans (HKB.out b h1 h2));have HM9:=qe (show qy w9 b7' hd (Value.slice qa qs.length qc) (Value.slice a3 0 c3) (.slice none 0 0) (.slice none 0 0) from(hg9.block b7' (by have:=P3.out;have:=XA.out.2;omega) (fun e=>by have:=(HOB.out.lt b7' e.symm).1;have:=XA.out.2;omega)).trans HMB.out);have HB9:=qe (HBB.out.grown hg9 HBB.out.size (fun j hj=>Nat.le_trans jk.out.size (HOB.out.lt j hj).1));clear Jl hg9 hn9 n0 n1 n2 n3 n4 n5 n6 n7 n8 n9 n10 n11 n12 n13 f11 x11 kR HOB HKB HMB P1 P2 P3 HSB HWA HWB HGB;go_wp2_with fail;go_ret;rw[HL.out];refine⟨_,rfl,HB9.out,fun W' _ hk hQ=>?_⟩;exact rans_nil (qG HOW9.out jk.out.size) HQL.out W' hk hQ
 ·have HL:=qe (show tr.uV H ⟨⟨hi,true,op,b3,b4,b5,b6,b7,b8,rc⟩,qs,an,au,ad⟩= [] from if_pos (.inl rfl));go_wp2_with fail;go_ret;rw[HL.out];exact HNIL.out
end Go.Proofs.YtpcmilhjpmlbpaaGreatDoor
