import Derived.Test.YtpcmilhjpmlbpaaGreatDoorQCpR
set_option maxRecDepth 100000
set_option maxHeartbeats 4000000
namespace Go.Proofs.YtpcmilhjpmlbpaaGreatDoor
open Go.RowKit Go.Shelf nm od
namespace tr
def idI (id:Int):Int:=if id<0\/65535<id then 23 else 0
def uS (qf:ByteArray)(id:Int):Int:=if qo qf=false then 1 else idI id
end tr
@[reducible] def hdI (id:Int):Hd:=⟨id,false,0,false,false,false,false,false,false,0⟩
@[reducible] def qE:Value:=.slice none 0 0
def AskMsg (name:ByteArray)(t id:Int)(au:List Rec)(w:World)(e:Ending)(w':World):Prop:=∃g u,e= .returned (.tuple #[yu (hdI id) (.slice (some ⟨g,0,none⟩) 1 1) qE u qE,.int .i64 0])/\Below w.heap.size w w'/\
 yw w' (.slice (some ⟨g,0,none⟩) 1 1) [⟨name,t,1⟩]/\ql w' u au/\zx u
def yQ (c:Int)(name:ByteArray)(t id:Int)(au:List Rec)(w:World)(e:Ending)(w':World):Prop:=
 (c≠0/\e= .returned (.tuple #[yu hd0 qE qE qE qE,.int .i64 c])/\Below w.heap.size w w')\/(c=0/\AskMsg name t id au w e w')
theorem rask_nil (qf:ByteArray)(hap:qf.size<=1099511627776)(id:Int)(w:World):
 Calls Tryz.prog 18 #[.pointer none,.string qf,.int .i64 id] w λe w'=>yQ (tr.uS qf id) qf 252 id [] w e w':=by
 obtain⟨w1,hw1⟩:=yM (w.alloc (.cells (yT hd0 qE qE qE qE).toArray 33));obtain⟨hB1,hs1,hm1⟩:=zG hw1;obtain⟨bm,hbm⟩:=yM w.heap.size;rw[<- hbm]at hm1;have HM:=qe hm1;have HW1:=qe hw1;have HBM:=qe hbm;have HB1:=qe hB1;have HBML:=qe (show bm<w1.heap.size by omega);clear hw1 hB1 hs1 hm1 hbm;obtain⟨cb,hcb⟩:=yM (qo qf);have HC:=qe (zu qf hap w1);rw[<- hcb]at HC;have HCB:=qe hcb;clear hcb hap
 go_enter Tryz.func18,Tryz.ntmps18
 go_upto_region 1 with fail;rw[<- HW1.out,<- HBM.out];go_wp2_with fail;refine HC.out.mono ?_;rintro e w2 ⟨rfl,hB2⟩;have HB2:=qe hB2;clear hB2
 cases cb
 ·have HK:=qe (show tr.uS qf id=1 by unfold tr.uS;rw[if_pos HCB.out.symm]);have hmW:=HM.out.below HB2.out;obtain⟨y0,y1,y2,y3,y4,y5,y6,y7,y8,y9,y10,y11,y12,y13⟩:=qi.facts hmW;have f0:=qi.free hmW 0;have f1:=qi.free hmW 1;have f2:=qi.free hmW 2;have f3:=qi.free hmW 3;have f4:=qi.free hmW 4;have f5:=qi.free hmW 5;have f6:=qi.free hmW 6;have f7:=qi.free hmW 7;have f8:=qi.free hmW 8;have f9:=qi.free hmW 9;have f10:=qi.free hmW 10;have f11:=qi.free hmW 11;have f12:=qi.free hmW 12;have f13:=qi.free hmW 13;have hst:=yg hmW hd0 qE qE qE qE;have HST:=qe hst.1;have yX:=qe (show yQ (tr.uS qf id) qf 252 id [] w (.returned (.tuple #[yu hd0 qE qE qE qE,.int .i64 1])) _ from .inl ⟨by rw[HK.out];decide,by rw[HK.out],(gm HB1.out HB2.out).grown hst.2 (gm HB1.out HB2.out).size (λj hj=>by simp only[gM]at hj;rw[<- hj,HBM.out];exact gI _)⟩);clear hmW hst;go_wp2_with fail;exact jr (y:=.int .i64 1) rfl rfl rfl rfl HST.out yX.out
 ·by_cases h1:id<0
  ·have HK:=qe (show tr.uS qf id=23 by unfold tr.uS tr.idI;rw[if_neg (by rw[<- HCB.out];simp),if_pos (.inl h1)]);have d1:decide (id<0)=true:=gF h1;have hmW:=HM.out.below HB2.out;obtain⟨y0,y1,y2,y3,y4,y5,y6,y7,y8,y9,y10,y11,y12,y13⟩:=qi.facts hmW;have f0:=qi.free hmW 0;have f1:=qi.free hmW 1;have f2:=qi.free hmW 2;have f3:=qi.free hmW 3;have f4:=qi.free hmW 4;have f5:=qi.free hmW 5;have f6:=qi.free hmW 6;have f7:=qi.free hmW 7;have f8:=qi.free hmW 8;have f9:=qi.free hmW 9;have f10:=qi.free hmW 10;have f11:=qi.free hmW 11;have f12:=qi.free hmW 12;have f13:=qi.free hmW 13;have hst:=yg hmW hd0 qE qE qE qE;have HST:=qe hst.1;have yX:=qe (show yQ (tr.uS qf id) qf 252 id [] w (.returned (.tuple #[yu hd0 qE qE qE qE,.int .i64 23])) _ from .inl ⟨by rw[HK.out];decide,by rw[HK.out],(gm HB1.out HB2.out).grown hst.2 (gm HB1.out HB2.out).size (λj hj=>by simp only[gM]at hj;rw[<- hj,HBM.out];exact gI _)⟩);clear hmW hst;go_wp2_with fail;exact jr (y:=.int .i64 23) rfl rfl rfl rfl HST.out yX.out
  ·have d1:decide (id<0)=false:=gp h1;by_cases h2:65535<id
   ·have HK:=qe (show tr.uS qf id=23 by unfold tr.uS tr.idI;rw[if_neg (by rw[<- HCB.out];simp),if_pos (.inr h2)]);have d2:decide (65535<id)=true:=gF h2;have hmW:=HM.out.below HB2.out;obtain⟨y0,y1,y2,y3,y4,y5,y6,y7,y8,y9,y10,y11,y12,y13⟩:=qi.facts hmW;have f0:=qi.free hmW 0;have f1:=qi.free hmW 1;have f2:=qi.free hmW 2;have f3:=qi.free hmW 3;have f4:=qi.free hmW 4;have f5:=qi.free hmW 5;have f6:=qi.free hmW 6;have f7:=qi.free hmW 7;have f8:=qi.free hmW 8;have f9:=qi.free hmW 9;have f10:=qi.free hmW 10;have f11:=qi.free hmW 11;have f12:=qi.free hmW 12;have f13:=qi.free hmW 13;have hst:=yg hmW hd0 qE qE qE qE;have HST:=qe hst.1;have yX:=qe (show yQ (tr.uS qf id) qf 252 id [] w (.returned (.tuple #[yu hd0 qE qE qE qE,.int .i64 23])) _ from .inl ⟨by rw[HK.out];decide,by rw[HK.out],(gm HB1.out HB2.out).grown hst.2 (gm HB1.out HB2.out).size (λj hj=>by simp only[gM]at hj;rw[<- hj,HBM.out];exact gI _)⟩);clear hmW hst;go_wp2_with fail;exact jr (y:=.int .i64 23) rfl rfl rfl rfl HST.out yX.out
   ·have HK:=qe (show tr.uS qf id=0 by unfold tr.uS tr.idI;rw[if_neg (by rw[<- HCB.out];simp),if_neg (by omega)]);have d2:decide (65535<id)=false:=gp h2;obtain⟨w3,hw3⟩:=yM (w2.alloc (.cells #[.string qf,.int .i64 252,.int .i64 1] 78));obtain⟨hB3,hs3,hx3⟩:=YS w2 w3 ⟨qf,252,1⟩ hw3;have hm3:=(HM.out.below HB2.out).below hB3;have hst:=yg hm3 (hdI id) (.slice (some ⟨w2.heap.size,0,none⟩) 1 1) qE qE qE;have hB13:=HB1.out.trans ((gm HB2.out hB3).mono HB1.out.size);have hbl:bm<w2.heap.size:=gN HBML.out HB2.out.size;have hq:XL _ w2.heap.size 0 ⟨qf,252,1⟩:=hx3.keep (hst.2.block w2.heap.size (by omega) (by simp only[ne_eq,gM];omega));have yX:=qe (show yQ (tr.uS qf id) qf 252 id [] w (.returned (.tuple #[yu (hdI id) (.slice (some ⟨w2.heap.size,0,none⟩) 1 1) qE qE qE,.int .i64 0])) _ from
     .inr ⟨HK.out,_,_,rfl,hB13.grown hst.2 hB13.size (λj hj=>by simp only[gM]at hj;rw[<- hj,HBM.out];exact gI _),
      ⟨_,1,rfl,gI _,λk hk=>by
       have hk0:k=0:=by simpa using hk
       subst hk0;exact⟨_,0,rfl,gN (by omega) hst.2.size,hq⟩⟩,⟨none,0,rfl,gI _,λ_ hk=>absurd hk (Nat.not_lt_zero _)⟩,.inl rfl⟩)
    have HST:=qe hst.1;rw[hw3]at hm3;obtain⟨y0,y1,y2,y3,y4,y5,y6,y7,y8,y9,y10,y11,y12,y13⟩:=qi.facts hm3;have f0:=qi.free hm3 0;have f1:=qi.free hm3 1;have f2:=qi.free hm3 2;have f3:=qi.free hm3 3;have f4:=qi.free hm3 4;have f5:=qi.free hm3 5;have f6:=qi.free hm3 6;have f7:=qi.free hm3 7;have f8:=qi.free hm3 8;have f9:=qi.free hm3 9;have f10:=qi.free hm3 10;have f11:=qi.free hm3 11;have f12:=qi.free hm3 12;have f13:=qi.free hm3 13;rw[hw3]at HST yX;clear hw3 hB3 hs3 hx3 hst hB13 hq hm3 h1 h2 hbl;go_wp2_with fail;exact jr (y:=.int .i64 0) rfl rfl rfl rfl HST.out yX.out
end Go.Proofs.YtpcmilhjpmlbpaaGreatDoor
