import Derived.Test.YtdjjemajfphjaaaGreatQWirB
import Derived.Test.YtdjjemajfphjaaaGreatQUpdW
set_option maxRecDepth 100000
set_option maxHeartbeats 8000000
namespace Go.Proofs.YtdjjemajfphjaaaGreat
open Go.RowKit Go.Shelf nm od
theorem rwcheck_any (h:Hd)(qs:List Qn)(an au ad:List Rec)(hq:qs.length≤1000000000000)(ha:an.length≤1000000000000)(hu:au.length≤1000000000000)(hd:ad.length≤1000000000000)(q a u d:Value)(w:World)
 (sq:∀x∈qs,x.name.size≤1099511627776) (sa:∀x∈an,x.owner.size≤1099511627776) (su:∀x∈au,x.owner.size≤1099511627776) (sd:∀x∈ad,x.owner.size≤1099511627776)
 (rq:kJ w q qs) (ra:qy w a an) (ru:qy w u au) (rd:qy w d ad):
 Calls Tryz.prog 34 #[Yg h q a u d] w fun e w'=>e= .returned (.int .i64 (wi.okI (wi.jI h qs an au ad)))∧Below w.heap.size w w':=by
 obtain⟨w1,hw1⟩:∃X,X=w.alloc (.cells (Yh h q a u d).toArray 25):=⟨_,rfl⟩
 obtain⟨hB1,hs1,hm1⟩:=uJ hw1
 have HQ:=Lib.hid rq;have HA:=Lib.hid ra;have HU:=Lib.hid ru;have HD:=Lib.hid rd
 have SQ:=Lib.hid sq;have SA:=Lib.hid sa;have SU:=Lib.hid su;have SD:=Lib.hid sd
 obtain⟨qa,qc,rfl,-⟩:=id rq
 obtain⟨aa,ac,rfl,-⟩:=id ra
 obtain⟨ua,uc,rfl,-⟩:=id ru
 obtain⟨da,dc,rfl,-⟩:=id rd
 obtain⟨x0,x1,x2,x3,x4,x5,x6,x7,x8,x9,x10,x11,x12,x13⟩:=hm1.facts
 obtain⟨o1,ho1⟩:∃o,o=wi.hdB h:=⟨_,rfl⟩
 obtain⟨o2,ho2⟩:∃o,o=(o1 && wi.XR qs an au ad):=⟨_,rfl⟩
 have HO1:=Lib.hid ho1;have HO2:=Lib.hid ho2
 have HW1:=Lib.hid hw1;have HB1:=Lib.hid hB1;have HM1:=Lib.hid hm1
 clear hw1 hB1 hm1
 clear hs1 rq ra ru rd sq sa su sd ho1 ho2
 go_enter Tryz.func34,Tryz.ntmps34
 go_upto_region 1 with fail
 rw[← HW1.out]
 go_cut [3] (fun t wx=>t= .bool o1∧w1=wx)
 case first=>
  by_cases l1:0≤h.id
  ·have d1:decide (0≤h.id)=true:=decide_eq_true l1
   by_cases m1:h.id≤65535
   ·have f1:decide (h.id≤65535)=true:=decide_eq_true m1
    have HI1:=Lib.hid (show wi.inB h.id 65535=true from decide_eq_true ⟨l1,m1⟩)
    clear l1 m1
    by_cases l2:0≤h.op
    ·have d2:decide (0≤h.op)=true:=decide_eq_true l2
     by_cases m2:h.op≤15
     ·have f2:decide (h.op≤15)=true:=decide_eq_true m2
      have HI2:=Lib.hid (show wi.inB h.op 15=true from decide_eq_true ⟨l2,m2⟩)
      clear l2 m2
      by_cases l3:0≤h.vE
      ·have d3:decide (0≤h.vE)=true:=decide_eq_true l3
       by_cases m3:h.vE≤15
       ·have f3:decide (h.vE≤15)=true:=decide_eq_true m3
        have HI3:=Lib.hid (show wi.inB h.vE 15=true from decide_eq_true ⟨l3,m3⟩)
        clear l3 m3
        have hr:o1=true:=by rw[HO1.out,wi.hdB,HI1.out,HI2.out,HI3.out];rfl
        have HR:=Lib.hid hr
        clear hr
        go_wp2_with fail
        go_meet
        exact⟨by rw[HR.out],rfl⟩
       ·have f3:decide (h.vE≤15)=false:=decide_eq_false m3
        have hr:o1=false:=by rw[HO1.out,wi.hdB,show wi.inB h.vE 15=false from decide_eq_false fun h=>m3 h.2];simp
        clear l3 m3
        have HR:=Lib.hid hr
        clear hr
        go_wp2_with fail
        go_meet
        exact⟨by rw[HR.out],rfl⟩
      ·have d3:decide (0≤h.vE)=false:=decide_eq_false l3
       have hr:o1=false:=by rw[HO1.out,wi.hdB,show wi.inB h.vE 15=false from decide_eq_false fun h=>l3 h.1];simp
       clear l3
       have HR:=Lib.hid hr
       clear hr
       go_wp2_with fail
       go_meet
       exact⟨by rw[HR.out],rfl⟩
     ·have f2:decide (h.op≤15)=false:=decide_eq_false m2
      have hr:o1=false:=by rw[HO1.out,wi.hdB,show wi.inB h.op 15=false from decide_eq_false fun h=>m2 h.2];simp
      clear l2 m2
      have HR:=Lib.hid hr
      clear hr
      go_wp2_with fail
      go_meet
      exact⟨by rw[HR.out],rfl⟩
    ·have d2:decide (0≤h.op)=false:=decide_eq_false l2
     have hr:o1=false:=by rw[HO1.out,wi.hdB,show wi.inB h.op 15=false from decide_eq_false fun h=>l2 h.1];simp
     clear l2
     have HR:=Lib.hid hr
     clear hr
     go_wp2_with fail
     go_meet
     exact⟨by rw[HR.out],rfl⟩
   ·have f1:decide (h.id≤65535)=false:=decide_eq_false m1
    have hr:o1=false:=by rw[HO1.out,wi.hdB,show wi.inB h.id 65535=false from decide_eq_false fun h=>m1 h.2];simp
    clear l1 m1
    have HR:=Lib.hid hr
    clear hr
    go_wp2_with fail
    go_meet
    exact⟨by rw[HR.out],rfl⟩
  ·have d1:decide (0≤h.id)=false:=decide_eq_false l1
   have hr:o1=false:=by rw[HO1.out,wi.hdB,show wi.inB h.id 65535=false from decide_eq_false fun h=>l1 h.1];simp
   clear l1
   have HR:=Lib.hid hr
   clear hr
   go_wp2_with fail
   go_meet
   exact⟨by rw[HR.out],rfl⟩
 case rest=>
  obtain⟨rfl,rfl⟩:=hcut
  go_upto_region 2 with fail
  go_cut [3] (fun t wx=>t= .bool o2∧w1=wx)
  case first=>
   cases o1
   ·have hr:o2=false:=by rw[HO2.out];rfl
    have HR:=Lib.hid hr
    clear hr
    go_wp2_with fail
    go_meet
    exact⟨by rw[HR.out],rfl⟩
   ·by_cases l1:qs.length≤65535
    ·have d1:decide ((qs.length:Int)≤65535)=true:=decide_eq_true (by omega)
     by_cases l2:an.length≤65535
     ·have d2:decide ((an.length:Int)≤65535)=true:=decide_eq_true (by omega)
      by_cases l3:au.length≤65535
      ·have d3:decide ((au.length:Int)≤65535)=true:=decide_eq_true (by omega)
       by_cases l4:ad.length≤65535
       ·have d4:decide ((ad.length:Int)≤65535)=true:=decide_eq_true (by omega)
        have hr:o2=true:=by rw[HO2.out,wi.XR,decide_eq_true ⟨l1,l2,l3,l4⟩];rfl
        clear l1 l2 l3 l4
        have HR:=Lib.hid hr
        clear hr
        go_wp2_with fail
        go_meet
        exact⟨by rw[HR.out],rfl⟩
       ·have d4:decide ((ad.length:Int)≤65535)=false:=decide_eq_false (by omega)
        have hr:o2=false:=by rw[HO2.out,wi.XR,decide_eq_false fun h=>l4 h.2.2.2];rfl
        clear l1 l2 l3 l4
        have HR:=Lib.hid hr
        clear hr
        go_wp2_with fail
        go_meet
        exact⟨by rw[HR.out],rfl⟩
      ·have d3:decide ((au.length:Int)≤65535)=false:=decide_eq_false (by omega)
       have hr:o2=false:=by rw[HO2.out,wi.XR,decide_eq_false fun h=>l3 h.2.2.1];rfl
       clear l1 l2 l3
       have HR:=Lib.hid hr
       clear hr
       go_wp2_with fail
       go_meet
       exact⟨by rw[HR.out],rfl⟩
     ·have d2:decide ((an.length:Int)≤65535)=false:=decide_eq_false (by omega)
      have hr:o2=false:=by rw[HO2.out,wi.XR,decide_eq_false fun h=>l2 h.2.1];rfl
      clear l1 l2
      have HR:=Lib.hid hr
      clear hr
      go_wp2_with fail
      go_meet
      exact⟨by rw[HR.out],rfl⟩
    ·have d1:decide ((qs.length:Int)≤65535)=false:=decide_eq_false (by omega)
     have hr:o2=false:=by rw[HO2.out,wi.XR,decide_eq_false fun h=>l1 h.1];rfl
     clear l1
     have HR:=Lib.hid hr
     clear hr
     go_wp2_with fail
     go_meet
     exact⟨by rw[HR.out],rfl⟩
  case rest=>
   obtain⟨rfl,rfl⟩:=hcut
   go_wp2_with fail
   clear x0 x1 x2 x3 x4 x5 x6 x7 x8 x9 x10 x11 x12 x13
   go_loopw [68,3] (fun kv ov wr=>∃k:Nat,k≤qs.length∧kv= .int .i64 (k:Int)∧ov= .bool (o2 && (qs.take k).all wi.qnB)∧Hid (Below w1.heap.size w1 wr)) (fun kv _ _=>qs.length-(intOf kv).toNat)
   case atStart=>exact⟨0,Nat.zero_le _,rfl,by simp,Lib.hid (Below.refl _ _)⟩
   case round=>
    obtain⟨k,hk,rfl,rfl,HR⟩:=hrel
    obtain⟨w3,hw3⟩:∃X:World,X=wr:=⟨_,rfl⟩
    subst hw3
    have HB3:=Lib.hid (HB1.out.trans (HR.out.mono HB1.out.size))
    obtain⟨oo,hoo⟩:∃oo,oo=(o2 && (qs.take k).all wi.qnB):=⟨_,rfl⟩
    rw[← hoo]
    have HOO:=Lib.hid hoo
    clear hoo
    by_cases hlt:k<qs.length
    ·have hki:(k:Int)<(qs.length:Int):=by omega
     obtain⟨_,_,hv,_,hr0⟩:=kJ.below HQ.out HB3.out
     simp only[Value.slice.injEq,true_and]at hv
     obtain⟨rfl,rfl⟩:=hv
     obtain⟨bb,off,rfl,hbl,c0,c1,c2⟩:=hr0 k hlt
     obtain⟨x,hx⟩:∃x,x=qs[k]:=⟨_,rfl⟩
     rw[← hx]at c0 c1 c2
     obtain⟨wa,hwa⟩:∃W,W=w3.alloc (.cells (qnC x).toArray 63):=⟨_,rfl⟩
     obtain⟨hBa,hsa,hxa⟩:=qn_new w3 wa x hwa
     obtain⟨bx,hbx⟩:∃b,b=w3.heap.size:=⟨_,rfl⟩
     rw[← hbx]at hxa
     have zU:bx<wa.heap.size:=by omega
     obtain⟨y0,y1,y2⟩:=id hxa
     simp only[Nat.zero_add]at y1 y2
     have hxs:x.name.size≤1099511627776:=by rw[hx];exact SQ.out _ (List.getElem_mem hlt)
     obtain⟨on,hon⟩:∃on,on=(oo && wi.qnB x):=⟨_,rfl⟩
     have HNX:=Lib.hid (show(o2 && (qs.take (k+1)).all wi.qnB)=on by rw[wi.Jg _ hlt,hon,HOO.out,hx,Bool.and_assoc])
     have HWA:=Lib.hid hwa;have HXA:=Lib.hid hxa;have yH:=Lib.hid zU;have HBX:=Lib.hid hbx;have HXS:=Lib.hid hxs;have HON:=Lib.hid hon
     have HC4:=Lib.hid (HR.out.trans (hBa.mono HR.out.size))
     clear hwa hx hBa hsa hr0 hbl hxa zU hbx hxs hon
     go_upto_region 6 with fail
     rw[← HWA.out,← HBX.out]
     clear c0 c1 c2
     cases oo
     ·have ZM:on=false:=by rw[HON.out];rfl
      have HB6:=Lib.hid (Below.refl wa.heap.size wa)
      have Z5:=Lib.hid ZM
      have HC6:=Lib.hid (HC4.out.trans (HB6.out.mono HC4.out.size))
      clear ZM
      go_wp2_with fail
      go_roundw
      case rel=>
       first
        | exact⟨k+1,by omega,by go_num,by rw[HNX.out,Z5.out],HC6⟩
        | (repeat apply Exists.intro
           refine And.intro ?_ ?_
           rotate_left
           ·repeat (first | exact rfl | refine And.intro rfl ?_)
           exact⟨k+1,by omega,by go_num,by rw[HNX.out,Z5.out],HC6⟩)
      case measure=>simp[intOf];omega
     ·go_wp2_with fail
      refine(zH x.name HXS.out _).mono ?_
      rintro e w5 ⟨rfl,hB5⟩
      obtain⟨z0,z1,z2⟩:=HXA.out.keep (hB5.block bx yH.out)
      simp only[Nat.zero_add]at z1 z2
      have HB6:=Lib.hid hB5
      clear hB5 y0 y1 y2
      obtain⟨cb,hcb⟩:∃cb,cb=ql x.name:=⟨_,rfl⟩
      rw[← hcb]
      cases cb
      ·have ZM:on=false:=by rw[HON.out,wi.qnB,← hcb];rfl
       clear hcb
       have Z5:=Lib.hid ZM
       have HC6:=Lib.hid (HC4.out.trans (HB6.out.mono HC4.out.size))
       clear ZM
       go_wp2_with fail
       go_roundw
       case rel=>
        first
         | exact⟨k+1,by omega,by go_num,by rw[HNX.out,Z5.out],HC6⟩
         | (repeat apply Exists.intro
            refine And.intro ?_ ?_
            rotate_left
            ·repeat (first | exact rfl | refine And.intro rfl ?_)
            exact⟨k+1,by omega,by go_num,by rw[HNX.out,Z5.out],HC6⟩)
       case measure=>simp[intOf];omega
      ·have HC:=Lib.hid hcb.symm
       clear hcb
       by_cases l1:0≤x.typ
       ·have d1:decide (0≤x.typ)=true:=decide_eq_true l1
        by_cases m1:x.typ≤65535
        ·have f1:decide (x.typ≤65535)=true:=decide_eq_true m1
         have HI1:=Lib.hid (show wi.inB x.typ 65535=true from decide_eq_true ⟨l1,m1⟩)
         clear l1 m1
         by_cases l2:0≤x.cls
         ·have d2:decide (0≤x.cls)=true:=decide_eq_true l2
          by_cases m2:x.cls≤65535
          ·have f2:decide (x.cls≤65535)=true:=decide_eq_true m2
           have HI2:=Lib.hid (show wi.inB x.cls 65535=true from decide_eq_true ⟨l2,m2⟩)
           clear l2 m2
           have ZM:on=true:=by rw[HON.out,wi.qnB,HC.out,HI1.out,HI2.out];rfl
           have Z5:=Lib.hid ZM
           have HC6:=Lib.hid (HC4.out.trans (HB6.out.mono HC4.out.size))
           clear ZM
           go_wp2_with fail
           go_roundw
           case rel=>
            first
             | exact⟨k+1,by omega,by go_num,by rw[HNX.out,Z5.out],HC6⟩
             | (repeat apply Exists.intro
                refine And.intro ?_ ?_
                rotate_left
                ·repeat (first | exact rfl | refine And.intro rfl ?_)
                exact⟨k+1,by omega,by go_num,by rw[HNX.out,Z5.out],HC6⟩)
           case measure=>simp[intOf];omega
          ·have f2:decide (x.cls≤65535)=false:=decide_eq_false m2
           have ZM:on=false:=by rw[HON.out,wi.qnB,show wi.inB x.cls 65535=false from decide_eq_false fun h=>m2 h.2];simp
           clear l2 m2
           have Z5:=Lib.hid ZM
           have HC6:=Lib.hid (HC4.out.trans (HB6.out.mono HC4.out.size))
           clear ZM
           go_wp2_with fail
           go_roundw
           case rel=>
            first
             | exact⟨k+1,by omega,by go_num,by rw[HNX.out,Z5.out],HC6⟩
             | (repeat apply Exists.intro
                refine And.intro ?_ ?_
                rotate_left
                ·repeat (first | exact rfl | refine And.intro rfl ?_)
                exact⟨k+1,by omega,by go_num,by rw[HNX.out,Z5.out],HC6⟩)
           case measure=>simp[intOf];omega
         ·have d2:decide (0≤x.cls)=false:=decide_eq_false l2
          have ZM:on=false:=by rw[HON.out,wi.qnB,show wi.inB x.cls 65535=false from decide_eq_false fun h=>l2 h.1];simp
          clear l2
          have Z5:=Lib.hid ZM
          have HC6:=Lib.hid (HC4.out.trans (HB6.out.mono HC4.out.size))
          clear ZM
          go_wp2_with fail
          go_roundw
          case rel=>
           first
            | exact⟨k+1,by omega,by go_num,by rw[HNX.out,Z5.out],HC6⟩
            | (repeat apply Exists.intro
               refine And.intro ?_ ?_
               rotate_left
               ·repeat (first | exact rfl | refine And.intro rfl ?_)
               exact⟨k+1,by omega,by go_num,by rw[HNX.out,Z5.out],HC6⟩)
          case measure=>simp[intOf];omega
        ·have f1:decide (x.typ≤65535)=false:=decide_eq_false m1
         have ZM:on=false:=by rw[HON.out,wi.qnB,show wi.inB x.typ 65535=false from decide_eq_false fun h=>m1 h.2];simp
         clear l1 m1
         have Z5:=Lib.hid ZM
         have HC6:=Lib.hid (HC4.out.trans (HB6.out.mono HC4.out.size))
         clear ZM
         go_wp2_with fail
         go_roundw
         case rel=>
          first
           | exact⟨k+1,by omega,by go_num,by rw[HNX.out,Z5.out],HC6⟩
           | (repeat apply Exists.intro
              refine And.intro ?_ ?_
              rotate_left
              ·repeat (first | exact rfl | refine And.intro rfl ?_)
              exact⟨k+1,by omega,by go_num,by rw[HNX.out,Z5.out],HC6⟩)
         case measure=>simp[intOf];omega
       ·have d1:decide (0≤x.typ)=false:=decide_eq_false l1
        have ZM:on=false:=by rw[HON.out,wi.qnB,show wi.inB x.typ 65535=false from decide_eq_false fun h=>l1 h.1];simp
        clear l1
        have Z5:=Lib.hid ZM
        have HC6:=Lib.hid (HC4.out.trans (HB6.out.mono HC4.out.size))
        clear ZM
        go_wp2_with fail
        go_roundw
        case rel=>
         first
          | exact⟨k+1,by omega,by go_num,by rw[HNX.out,Z5.out],HC6⟩
          | (repeat apply Exists.intro
             refine And.intro ?_ ?_
             rotate_left
             ·repeat (first | exact rfl | refine And.intro rfl ?_)
             exact⟨k+1,by omega,by go_num,by rw[HNX.out,Z5.out],HC6⟩)
        case measure=>simp[intOf];omega
    ·obtain rfl:k=qs.length:=by omega
     have HE:=Lib.hid (show oo=(o2 && qs.all wi.qnB) by rw[HOO.out,List.take_length])
     obtain⟨x0,x1,x2,x3,x4,x5,x6,x7,x8,x9,x10,x11,x12,x13⟩:=(HM1.out.below HR.out).facts
     clear hlt
     go_wp2_with fail
     clear x0 x1 x2 x3 x4 x5 x6 x7 x8 x9 x10 x11 x12 x13
     go_loopw [102,3] (fun kv ov wr=>∃k:Nat,k≤an.length∧kv= .int .i64 (k:Int)∧ov= .bool (oo && (an.take k).all wi.qR)∧Hid (Below w1.heap.size w1 wr)) (fun kv _ _=>an.length-(intOf kv).toNat)
     case atStart=>exact⟨0,Nat.zero_le _,rfl,by simp,HR⟩
     case round=>
      obtain⟨k,hk,rfl,rfl,HR⟩:=hrel
      obtain⟨w3,hw3⟩:∃X:World,X=wr:=⟨_,rfl⟩
      subst hw3
      have HB3:=Lib.hid (HB1.out.trans (HR.out.mono HB1.out.size))
      obtain⟨o4,hoo⟩:∃z,z=(oo && (an.take k).all wi.qR):=⟨_,rfl⟩
      rw[← hoo]
      have HOO:=Lib.hid hoo
      clear hoo
      by_cases hlt:k<an.length
      ·have hki:(k:Int)<(an.length:Int):=by omega
       obtain⟨_,_,hv,_,hr0⟩:=HA.out.below HB3.out
       simp only[Value.slice.injEq,true_and]at hv
       obtain⟨rfl,rfl⟩:=hv
       obtain⟨bb,off,rfl,hbl,c0,c1,c2,c3,c4⟩:=hr0 k hlt
       obtain⟨x,hx⟩:∃x,x=an[k]:=⟨_,rfl⟩
       rw[← hx]at c0 c1 c2 c3 c4
       obtain⟨wa,hwa⟩:∃W,W=w3.alloc (.cells (recC x).toArray 51):=⟨_,rfl⟩
       obtain⟨hBa,hsa,hxa⟩:=qM w3 wa x hwa
       obtain⟨bx,hbx⟩:∃b,b=w3.heap.size:=⟨_,rfl⟩
       rw[← hbx]at hxa
       obtain⟨x0,x1,x2,x3,x4⟩:=hxa
       have hxs:x.owner.size≤1099511627776:=by rw[hx];exact SA.out _ (List.getElem_mem hlt)
       have HWA:=Lib.hid hwa;have HBX:=Lib.hid hbx;have HXS:=Lib.hid hxs
       have HNX:=Lib.hid (show(oo && (an.take (k+1)).all wi.qR)=(o4 && wi.qR x) by rw[wi.Jg _ hlt,HOO.out,hx,Bool.and_assoc])
       have HB4:=Lib.hid (HB3.out.trans (hBa.mono HB3.out.size))
       have HC4:=Lib.hid (HR.out.trans (hBa.mono HR.out.size))
       clear hwa hx hBa hsa hr0 hbl hbx hxs
       go_upto_region 11 with fail
       rw[← HWA.out,← HBX.out]
       clear c0 c1 c2 c3 c4
       cases o4
       ·go_wp2_with fail
        go_roundw
        case rel=>
         first
          | exact⟨k+1,by omega,by go_num,by rw[HNX.out];rfl,HC4⟩
          | (repeat apply Exists.intro
             refine And.intro ?_ ?_
             rotate_left
             ·repeat (first | exact rfl | refine And.intro rfl ?_)
             exact⟨k+1,by omega,by go_num,by rw[HNX.out];rfl,HC4⟩)
        case measure=>simp[intOf];omega
       ·go_wp2_with fail
        refine(YQ x HXS.out _).mono ?_
        rintro e w5 ⟨rfl,hB5⟩
        have HC5:=Lib.hid (HC4.out.trans (hB5.mono HC4.out.size))
        clear hB5 x0 x1 x2 x3 x4
        go_wp2_with fail
        go_roundw
        case rel=>
         first
          | exact⟨k+1,by omega,by go_num,by rw[HNX.out];rfl,HC5⟩
          | (repeat apply Exists.intro
             refine And.intro ?_ ?_
             rotate_left
             ·repeat (first | exact rfl | refine And.intro rfl ?_)
             exact⟨k+1,by omega,by go_num,by rw[HNX.out];rfl,HC5⟩)
        case measure=>simp[intOf];omega
      ·obtain rfl:k=an.length:=by omega
       have HE2:=Lib.hid (show o4=(oo && an.all wi.qR) by rw[HOO.out,List.take_length])
       obtain⟨x0,x1,x2,x3,x4,x5,x6,x7,x8,x9,x10,x11,x12,x13⟩:=(HM1.out.below HR.out).facts
       clear hlt
       go_wp2_with fail
       clear x0 x1 x2 x3 x4 x5 x6 x7 x8 x9 x10 x11 x12 x13
       go_loopw [115,3] (fun kv ov wr=>∃k:Nat,k≤au.length∧kv= .int .i64 (k:Int)∧ov= .bool (o4 && (au.take k).all wi.qR)∧Hid (Below w1.heap.size w1 wr)) (fun kv _ _=>au.length-(intOf kv).toNat)
       case atStart=>exact⟨0,Nat.zero_le _,rfl,by simp,HR⟩
       case round=>
        obtain⟨k,hk,rfl,rfl,HR⟩:=hrel
        obtain⟨w3,hw3⟩:∃X:World,X=wr:=⟨_,rfl⟩
        subst hw3
        have HB3:=Lib.hid (HB1.out.trans (HR.out.mono HB1.out.size))
        obtain⟨o5,hoo⟩:∃z,z=(o4 && (au.take k).all wi.qR):=⟨_,rfl⟩
        rw[← hoo]
        have HOO:=Lib.hid hoo
        clear hoo
        by_cases hlt:k<au.length
        ·have hki:(k:Int)<(au.length:Int):=by omega
         obtain⟨_,_,hv,_,hr0⟩:=HU.out.below HB3.out
         simp only[Value.slice.injEq,true_and]at hv
         obtain⟨rfl,rfl⟩:=hv
         obtain⟨bb,off,rfl,hbl,c0,c1,c2,c3,c4⟩:=hr0 k hlt
         obtain⟨x,hx⟩:∃x,x=au[k]:=⟨_,rfl⟩
         rw[← hx]at c0 c1 c2 c3 c4
         obtain⟨wa,hwa⟩:∃W,W=w3.alloc (.cells (recC x).toArray 51):=⟨_,rfl⟩
         obtain⟨hBa,hsa,hxa⟩:=qM w3 wa x hwa
         obtain⟨bx,hbx⟩:∃b,b=w3.heap.size:=⟨_,rfl⟩
         rw[← hbx]at hxa
         obtain⟨x0,x1,x2,x3,x4⟩:=hxa
         have hxs:x.owner.size≤1099511627776:=by rw[hx];exact SU.out _ (List.getElem_mem hlt)
         have HWA:=Lib.hid hwa;have HBX:=Lib.hid hbx;have HXS:=Lib.hid hxs
         have HNX:=Lib.hid (show(o4 && (au.take (k+1)).all wi.qR)=(o5 && wi.qR x) by rw[wi.Jg _ hlt,HOO.out,hx,Bool.and_assoc])
         have HB4:=Lib.hid (HB3.out.trans (hBa.mono HB3.out.size))
         have HC4:=Lib.hid (HR.out.trans (hBa.mono HR.out.size))
         clear hwa hx hBa hsa hr0 hbl hbx hxs
         go_upto_region 16 with fail
         rw[← HWA.out,← HBX.out]
         clear c0 c1 c2 c3 c4
         cases o5
         ·go_wp2_with fail
          go_roundw
          case rel=>
           first
            | exact⟨k+1,by omega,by go_num,by rw[HNX.out];rfl,HC4⟩
            | (repeat apply Exists.intro
               refine And.intro ?_ ?_
               rotate_left
               ·repeat (first | exact rfl | refine And.intro rfl ?_)
               exact⟨k+1,by omega,by go_num,by rw[HNX.out];rfl,HC4⟩)
          case measure=>simp[intOf];omega
         ·go_wp2_with fail
          refine(YQ x HXS.out _).mono ?_
          rintro e w5 ⟨rfl,hB5⟩
          have HC5:=Lib.hid (HC4.out.trans (hB5.mono HC4.out.size))
          clear hB5 x0 x1 x2 x3 x4
          go_wp2_with fail
          go_roundw
          case rel=>
           first
            | exact⟨k+1,by omega,by go_num,by rw[HNX.out];rfl,HC5⟩
            | (repeat apply Exists.intro
               refine And.intro ?_ ?_
               rotate_left
               ·repeat (first | exact rfl | refine And.intro rfl ?_)
               exact⟨k+1,by omega,by go_num,by rw[HNX.out];rfl,HC5⟩)
          case measure=>simp[intOf];omega
        ·obtain rfl:k=au.length:=by omega
         have HE3:=Lib.hid (show o5=(o4 && au.all wi.qR) by rw[HOO.out,List.take_length])
         obtain⟨x0,x1,x2,x3,x4,x5,x6,x7,x8,x9,x10,x11,x12,x13⟩:=(HM1.out.below HR.out).facts
         clear hlt
         go_wp2_with fail
         clear x0 x1 x2 x3 x4 x5 x6 x7 x8 x9 x10 x11 x12 x13
         go_loopw [128,3] (fun kv ov wr=>∃k:Nat,k≤ad.length∧kv= .int .i64 (k:Int)∧ov= .bool (o5 && (ad.take k).all wi.qR)∧Hid (Below w1.heap.size w1 wr)) (fun kv _ _=>ad.length-(intOf kv).toNat)
         case atStart=>exact⟨0,Nat.zero_le _,rfl,by simp,HR⟩
         case round=>
          obtain⟨k,hk,rfl,rfl,HR⟩:=hrel
          obtain⟨w3,hw3⟩:∃X:World,X=wr:=⟨_,rfl⟩
          subst hw3
          have HB3:=Lib.hid (HB1.out.trans (HR.out.mono HB1.out.size))
          obtain⟨o6,hoo⟩:∃z,z=(o5 && (ad.take k).all wi.qR):=⟨_,rfl⟩
          rw[← hoo]
          have HOO:=Lib.hid hoo
          clear hoo
          by_cases hlt:k<ad.length
          ·have hki:(k:Int)<(ad.length:Int):=by omega
           obtain⟨_,_,hv,_,hr0⟩:=HD.out.below HB3.out
           simp only[Value.slice.injEq,true_and]at hv
           obtain⟨rfl,rfl⟩:=hv
           obtain⟨bb,off,rfl,hbl,c0,c1,c2,c3,c4⟩:=hr0 k hlt
           obtain⟨x,hx⟩:∃x,x=ad[k]:=⟨_,rfl⟩
           rw[← hx]at c0 c1 c2 c3 c4
           obtain⟨wa,hwa⟩:∃W,W=w3.alloc (.cells (recC x).toArray 51):=⟨_,rfl⟩
           obtain⟨hBa,hsa,hxa⟩:=qM w3 wa x hwa
           obtain⟨bx,hbx⟩:∃b,b=w3.heap.size:=⟨_,rfl⟩
           rw[← hbx]at hxa
           obtain⟨x0,x1,x2,x3,x4⟩:=hxa
           have hxs:x.owner.size≤1099511627776:=by rw[hx];exact SD.out _ (List.getElem_mem hlt)
           have HWA:=Lib.hid hwa;have HBX:=Lib.hid hbx;have HXS:=Lib.hid hxs
           have HNX:=Lib.hid (show(o5 && (ad.take (k+1)).all wi.qR)=(o6 && wi.qR x) by rw[wi.Jg _ hlt,HOO.out,hx,Bool.and_assoc])
           have HB4:=Lib.hid (HB3.out.trans (hBa.mono HB3.out.size))
           have HC4:=Lib.hid (HR.out.trans (hBa.mono HR.out.size))
           clear hwa hx hBa hsa hr0 hbl hbx hxs
           go_upto_region 21 with fail
           rw[← HWA.out,← HBX.out]
           clear c0 c1 c2 c3 c4
           cases o6
           ·go_wp2_with fail
            go_roundw
            case rel=>
             first
              | exact⟨k+1,by omega,by go_num,by rw[HNX.out];rfl,HC4⟩
              | (repeat apply Exists.intro
                 refine And.intro ?_ ?_
                 rotate_left
                 ·repeat (first | exact rfl | refine And.intro rfl ?_)
                 exact⟨k+1,by omega,by go_num,by rw[HNX.out];rfl,HC4⟩)
            case measure=>simp[intOf];omega
           ·go_wp2_with fail
            refine(YQ x HXS.out _).mono ?_
            rintro e w5 ⟨rfl,hB5⟩
            have HC5:=Lib.hid (HC4.out.trans (hB5.mono HC4.out.size))
            clear hB5 x0 x1 x2 x3 x4
            go_wp2_with fail
            go_roundw
            case rel=>
             first
              | exact⟨k+1,by omega,by go_num,by rw[HNX.out];rfl,HC5⟩
              | (repeat apply Exists.intro
                 refine And.intro ?_ ?_
                 rotate_left
                 ·repeat (first | exact rfl | refine And.intro rfl ?_)
                 exact⟨k+1,by omega,by go_num,by rw[HNX.out];rfl,HC5⟩)
            case measure=>simp[intOf];omega
          ·obtain rfl:k=ad.length:=by omega
           have HE4:=Lib.hid (show o6=(o5 && ad.all wi.qR) by rw[HOO.out,List.take_length])
           obtain⟨x0,x1,x2,x3,x4,x5,x6,x7,x8,x9,x10,x11,x12,x13⟩:=(HM1.out.below HR.out).facts
           clear hlt
           clear x0 x1 x2 x3 x4 x5 x6 x7 x8 x9 x10 x11 x12 x13
           have hm:wi.jI h qs an au ad=o6:=by unfold wi.jI;rw[HE4.out,HE3.out,HE2.out,HE.out,HO2.out,HO1.out]
           cases o6
           ·have HM8:=Lib.hid (show wi.okI (wi.jI h qs an au ad)=8 by rw[hm];rfl)
            clear hm
            go_wp2_with fail
            go_ret
            exact⟨qH HM8.out.symm,HB3.out⟩
           ·have HM8:=Lib.hid (show wi.okI (wi.jI h qs an au ad)=0 by rw[hm];rfl)
            clear hm
            go_wp2_with fail
            go_ret
            exact⟨qH HM8.out.symm,HB3.out⟩
end Go.Proofs.YtdjjemajfphjaaaGreat
namespace Go.Proofs.YtdjjemajfphjaaaGreat
open Go.RowKit Go.Shelf nm od
namespace up
theorem msg_lens {h:Hd}{qs:List Qn}{an au ad:List Rec}(h1:wi.jI h qs an au ad=true):an.length≤65535∧au.length≤65535∧∀q∈qs,ql q.name=true:=by
 unfold wi.jI at h1
 simp only[Bool.and_eq_true]at h1
 have h2:=h1.1.1.1.1.2
 unfold wi.XR at h2
 have h3:=of_decide_eq_true h2
 refine⟨h3.2.1,h3.2.2.1,fun q hq=>?_⟩
 have h4:=List.all_eq_true.1 h1.1.1.1.2 q hq
 unfold wi.qnB at h4
 simp only[Bool.and_eq_true]at h4
 exact h4.1.1
end up
theorem rcheck6_any (z:Nat)(qf:ByteArray)(hap:qf.size≤1099511627776)(L:List Rec)(hva:zn.Valid qf L)(h:Hd)(qs:List Qn)(an au ad:List Rec)(hq:qs.length≤1000000000000)(ha:an.length≤1000000000000)(hu:au.length≤1000000000000)(hd:ad.length≤1000000000000)(q a u d:Value)(w:World)
 (sq:∀x∈qs,x.name.size≤1099511627776) (sa:∀x∈an,x.owner.size≤1099511627776) (su:∀x∈au,x.owner.size≤1099511627776) (sd:∀x∈ad,x.owner.size≤1099511627776) (hz:vO w z qf L)
 (rq:kJ w q qs) (ra:qy w a an) (ru:qy w u au) (rd:qy w d ad):
 Calls Tryz.prog 10 #[.pointer (some ⟨z,0,none⟩),Yg h q a u d] w fun e w'=>e= .returned (.int .i64 (up.zN qf L h qs an au ad))∧Below w.heap.size w w':=by
 obtain⟨hi,rs,op,b3,b4,b5,b6,b7,b8,rc⟩:=h
 obtain⟨w1,hw1⟩:∃X,X=w.alloc (.cells (Yh ⟨hi,rs,op,b3,b4,b5,b6,b7,b8,rc⟩ q a u d).toArray 25):=⟨_,rfl⟩
 obtain⟨hB1,hs1,hm1⟩:=uJ hw1
 obtain⟨bm,hbm⟩:∃b,b=w.heap.size:=⟨_,rfl⟩
 rw[← hbm]at hm1
 have HM:=Lib.hid hm1;have HVA:=Lib.hid hva;have HW1:=Lib.hid hw1;have HBM:=Lib.hid hbm
 have HZ:=Lib.hid (hz.below hB1)
 have HQ:=Lib.hid (rq.below hB1);have HA:=Lib.hid (ra.below hB1);have HU:=Lib.hid (ru.below hB1)
 have CW:=Lib.hid (rwcheck_any ⟨hi,rs,op,b3,b4,b5,b6,b7,b8,rc⟩ qs an au ad hq ha hu hd q a u d w1 sq sa su sd HQ.out HA.out HU.out (rd.below hB1))
 have HB1:=Lib.hid hB1
 obtain⟨qa,qc,rfl,-⟩:=id rq
 obtain⟨aa,ac,rfl,-⟩:=id ra
 obtain⟨ua,uc,rfl,-⟩:=id ru
 obtain⟨da,dc,rfl,-⟩:=id rd
 clear hva hw1 hbm hz rq ra ru rd hB1 hs1 hm1 sq sa su sd
 obtain⟨m0,m1,m2,m3,m4,m5,m6,m7,m8,m9,m10,m11,m12,m13⟩:=(HM.out.below (Below.refl _ _)).facts
 go_enter Tryz.func10,Tryz.ntmps10
 go_upto_region 1 with fail
 rw[← HW1.out,← HBM.out]
 cases rs
 ·go_wp2_with fail
  refine CW.out.mono ?_
  rintro e w2 ⟨rfl,hB2⟩
  have HB2:=Lib.hid hB2
  have Uv:=Lib.hid (HB1.out.trans (hB2.mono HB1.out.size))
  obtain⟨mb,hmb⟩:∃mb,mb=wi.jI ⟨hi,false,op,b3,b4,b5,b6,b7,b8,rc⟩ qs an au ad:=⟨_,rfl⟩
  rw[← hmb]
  have HMB:=Lib.hid hmb
  clear m0 m1 m2 m3 m4 m5 m6 m7 m8 m9 m10 m11 m12 m13
  obtain⟨m0,m1,m2,m3,m4,m5,m6,m7,m8,m9,m10,m11,m12,m13⟩:=(HM.out.below HB2.out).facts
  clear hB2 hmb
  cases mb
  ·have e2:(wi.okI false != 0)=true:=by decide
   have HC:=Lib.hid (up.Uf (qf:=qf) (L:=L) (h:=⟨hi,false,op,b3,b4,b5,b6,b7,b8,rc⟩) (qs:=qs) (an:=an) (au:=au) (ad:=ad) (by unfold up.xn;rw[← HMB.out];simp))
   go_wp2_with fail
   go_ret
   exact⟨qH HC.out.symm,Uv.out⟩
  ·have e2:(wi.okI true != 0)=false:=by decide
   by_cases ho:op=5
   ·have e3:(op != 5)=false:=by rw[bne_eq_false_iff_eq];exact ho
    have HH:=Lib.hid (show up.xn ⟨hi,false,op,b3,b4,b5,b6,b7,b8,rc⟩ qs an au ad=true by unfold up.xn;rw[← HMB.out,ho];rfl)
    clear ho
    by_cases hq1:qs.length=1
    ·have e4:((qs.length:Int) != 1)=false:=by rw[bne_eq_false_iff_eq];omega
     obtain⟨_,_,hv,-,hr0⟩:=HQ.out.below HB2.out
     simp only[Value.slice.injEq,true_and]at hv
     obtain⟨rfl,rfl⟩:=hv
     obtain⟨qb,qoff,rfl,hqb,c0,c1,c2⟩:=hr0 0 (by omega)
     obtain⟨q0,hq0⟩:∃q0,q0=qs[0]'(by omega):=⟨_,rfl⟩
     rw[← hq0]at c0 c1 c2
     simp only[Nat.zero_mul,Nat.add_zero]at c0 c1 c2
     have hqs:qs= [q0]:=by
      obtain⟨y,hy⟩:=List.length_eq_one_iff.1 hq1
      have:q0=y:=by rw[hq0];simp[hy]
      rw[this,hy]
     have hl0:0<qs.length:=by omega
     have HQS:=Lib.hid hqs
     clear hr0 hqb hq0 hqs hq1
     by_cases k6:q0.typ=6
     ·have e5:(q0.typ != 6)=false:=by rw[bne_eq_false_iff_eq];exact k6
      by_cases kc:q0.cls=1
      ·have e6:(q0.cls != 1)=false:=by rw[bne_eq_false_iff_eq];exact kc
       have HAS:=Lib.hid (show up.xe qs=true by rw[HQS.out];simp[up.xe,k6,kc])
       clear k6 kc
       go_upto_region 3 with fail
       clear e2 e3 e4 e5 e6
       have hlen:=up.msg_lens HMB.out.symm
       have hnm:=up.U0 HMB.out.symm
       have hqsz:q0.name.size≤1099511627776:=by
        have:=qP (hlen.2.2 q0 (by rw[HQS.out];simp))
        omega
       have HLN:=Lib.hid (show an.length≤1000000∧au.length≤1000000 from⟨by omega,by omega⟩)
       have HSA:=Lib.hid (show ∀x∈an,x.owner.size≤1099511627776 from fun x hx=>by have:=qP (hnm.1 x hx);omega)
       have HSU:=Lib.hid (show ∀x∈au,x.owner.size≤1099511627776 from fun x hx=>by have:=qP (hnm.2 x hx);omega)
       obtain⟨gz,capz,hzc,-⟩:=HZ.out.below HB2.out
       have zc:w2.cell? ⟨z,0,none⟩=some (.string qf):=by rw[qg hzc];rfl
       obtain⟨ib,hib⟩:∃ib,ib=qz q0.name qf:=⟨_,rfl⟩
       have CE:Hid (∀p,Calls Tryz.prog 35 #[.string q0.name,.string qf] (gw w2 p) fun e w''=>e= .returned (.bool ib)∧∃p',w''=gw w2 p'):=Lib.hid fun p=>by rw[hib];exact qL (zk q0.name qf hqsz hap _)
       have HAU:=Lib.hid (show up.authB qf qs=ib by rw[HQS.out,hib];rfl)
       have k0:=qh zc;have k1:=qh m10;have k2:=qh c0
       clear hlen hnm hqsz hzc zc hib c0 c1 c2
       clear m0 m1 m2 m3 m4 m5 m6 m7 m8 m9 m10 m11 m12 m13
       refine qj (by kernel_rfl) (by kernel_rfl) ?_
       repeat (with_reducible refine wpQuiet_step (fun K hK=>?_);go_simp;(try simp only[undef]);first | (with_reducible refine hK _ ?_;clear hK K) | (apply Exists.intro;refine⟨fun _=>?_,hK _ ?_⟩;(first | (go_at_call 35;with_reducible exact CE.out _));clear hK K) | (with_reducible refine⟨fun _ h=>(by cases h),?_⟩;with_reducible refine hK _ ?_;clear hK K))
       refine wpQuiet_nil ?_
       (try simp only[show Value.tuple #[]=undef from rfl])
       intro U hU
       have hBU:Below w2.heap.size w2 U:=by obtain⟨g,rfl⟩:=hU;exact qp _ g
       clear hU
       have HB3:=Lib.hid (HB2.out.trans (hBU.mono HB2.out.size))
       have Z7:=Lib.hid (HB1.out.trans (HB3.out.mono HB1.out.size))
       clear hBU k0 k1 k2 hl0
       cases ib
       ·have HC:=Lib.hid (up.chk_c (qf:=qf) (L:=L) HH.out HAS.out HAU.out)
        go_wp2_with fail
        go_ret
        exact⟨qH HC.out.symm,Z7.out⟩
       ·have HCD:=Lib.hid (up.chk_d (qf:=qf) (L:=L) HH.out HAS.out HAU.out)
        obtain⟨m0,m1,m2,m3,m4,m5,m6,m7,m8,m9,m10,m11,m12,m13⟩:=(HM.out.below HB3.out).facts
        go_wp2_with fail
        refine(VL z qf hap L an HVA.out HLN.out.1 HSA.out _ U (HA.out.below HB3.out) (HZ.out.below HB3.out)).mono ?_
        rintro e w4 ⟨rfl,hB4⟩
        have HB4:=Lib.hid (HB3.out.trans (hB4.mono HB3.out.size))
        have HB14:=Lib.hid (HB1.out.trans (HB4.out.mono HB1.out.size))
        clear m0 m1 m2 m3 m4 m5 m6 m7 m8 m9 m10 m11 m12 m13
        obtain⟨m0,m1,m2,m3,m4,m5,m6,m7,m8,m9,m10,m11,m12,m13⟩:=(HM.out.below HB4.out).facts
        obtain⟨cs,hcs⟩:∃cs,cs=up.yM qf L an:=⟨_,rfl⟩
        rw[← hcs]
        have HCS:=Lib.hid hcs
        clear hB4 hcs
        by_cases hc0:cs=0
        ·have e7:(cs != 0)=false:=by rw[bne_eq_false_iff_eq];exact hc0
         have HC:=Lib.hid (show up.zN qf L ⟨hi,false,op,b3,b4,b5,b6,b7,b8,rc⟩ qs an au ad=up.jl (up.yc qf) au by rw[HCD.out,← HCS.out,hc0];rfl)
         clear hc0
         go_wp2_with fail
         refine(rchanges_any z qf hap L au HLN.out.2 HSU.out _ w4 (HU.out.below HB4.out) (HZ.out.below HB4.out)).mono ?_
         rintro e w5 ⟨rfl,hB5⟩
         have HB5:=Lib.hid (HB14.out.trans (hB5.mono HB14.out.size))
         clear hB5 e7
         clear m0 m1 m2 m3 m4 m5 m6 m7 m8 m9 m10 m11 m12 m13
         go_wp2_with fail
         go_ret
         exact⟨qH HC.out.symm,HB5.out⟩
        ·have e7:(cs != 0)=true:=by rw[bne_iff_ne];exact hc0
         have HC:=Lib.hid (show up.zN qf L ⟨hi,false,op,b3,b4,b5,b6,b7,b8,rc⟩ qs an au ad=cs by rw[HCD.out,← HCS.out,if_pos hc0])
         clear hc0
         go_wp2_with fail
         go_ret
         exact⟨qH HC.out.symm,HB14.out⟩
      ·have e6:(q0.cls != 1)=true:=by rw[bne_iff_ne];exact kc
       have HC:=Lib.hid (up.chk_b (qf:=qf) (L:=L) (h:=⟨hi,false,op,b3,b4,b5,b6,b7,b8,rc⟩) (qs:=qs) (an:=an) (au:=au) (ad:=ad) (by rw[HQS.out];simp[up.xe,kc]))
       clear k6 kc
       go_wp2_with fail
       go_ret
       exact⟨qH HC.out.symm,Uv.out⟩
     ·have e5:(q0.typ != 6)=true:=by rw[bne_iff_ne];exact k6
      have HC:=Lib.hid (up.chk_b (qf:=qf) (L:=L) (h:=⟨hi,false,op,b3,b4,b5,b6,b7,b8,rc⟩) (qs:=qs) (an:=an) (au:=au) (ad:=ad) (by rw[HQS.out];simp[up.xe,k6]))
      clear k6
      go_wp2_with fail
      go_ret
      exact⟨qH HC.out.symm,Uv.out⟩
    ·have e4:((qs.length:Int) != 1)=true:=by rw[bne_iff_ne];omega
     have HC:=Lib.hid (up.chk_b (qf:=qf) (L:=L) (h:=⟨hi,false,op,b3,b4,b5,b6,b7,b8,rc⟩) (an:=an) (au:=au) (ad:=ad) (show up.xe qs=false by
      match qs,hq1 with
      | [],_=>rfl
      | [_],h=>exact absurd rfl h
      | _ :: _ :: _,_=>rfl))
     clear hq1
     go_wp2_with fail
     go_ret
     exact⟨qH HC.out.symm,Uv.out⟩
   ·have e3:(op != 5)=true:=by rw[bne_iff_ne];exact ho
    have HC:=Lib.hid (up.Uf (qf:=qf) (L:=L) (h:=⟨hi,false,op,b3,b4,b5,b6,b7,b8,rc⟩) (qs:=qs) (an:=an) (au:=au) (ad:=ad) (by unfold up.xn;simp[ho]))
    clear ho
    go_wp2_with fail
    go_ret
    exact⟨qH HC.out.symm,Uv.out⟩
 ·have HC:=Lib.hid (up.Uf (qf:=qf) (L:=L) (h:=⟨hi,true,op,b3,b4,b5,b6,b7,b8,rc⟩) (qs:=qs) (an:=an) (au:=au) (ad:=ad) rfl)
  go_wp2_with fail
  go_ret
  exact⟨qH HC.out.symm,HB1.out⟩
end Go.Proofs.YtdjjemajfphjaaaGreat
