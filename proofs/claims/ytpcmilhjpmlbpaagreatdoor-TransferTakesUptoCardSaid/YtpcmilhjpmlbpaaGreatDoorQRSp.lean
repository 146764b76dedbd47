import Derived.Test.YtpcmilhjpmlbpaaGreatDoorQCpT
import Derived.Deep.RegionWith
import Derived.Deep.CutBlock
import Derived.Deep.Upon
set_option maxRecDepth 100000
set_option maxHeartbeats 8000000
namespace Go.Proofs.YtpcmilhjpmlbpaaGreatDoor
open Go.RowKit Go.Shelf nm od
theorem xV (w:World):ql w qE []:=⟨none,0,rfl,gI _,λ_ hk=>absurd hk (Nat.not_lt_zero _)⟩
theorem qns_one7 {w:World}{g:Nat}{q:Qn}(h:XL w g 0 q)(hg:g<w.heap.size):yw w (.slice (some ⟨g,0,none⟩) 1 1) [q]:=
 ⟨_,1,rfl,gI _,λk hk=>by
  have hk0:k=0:=by simpa using hk
  subst hk0;exact⟨_,0,rfl,hg,h⟩⟩
theorem recs_one7 {w:World}{g:Nat}{r:Rec}(h:Zk w g 0 r)(hg:g<w.heap.size):ql w (.slice (some ⟨g,0,none⟩) 1 1) [r]:=
 ⟨_,1,rfl,gI _,λk hk=>by
  have hk0:k=0:=by simpa using hk
  subst hk0;exact⟨_,0,rfl,hg,h⟩⟩
theorem ask_nil (qf:ByteArray)(id:Int)(w:World):
 Calls Tryz.prog 17 #[.pointer none,.string qf,.int .i64 id] w λe w'=>yQ (tr.uS qf id) qf 252 id [] w e w':=by
 obtain⟨w1,hw1⟩:=yM (w.alloc (.cells (yT hd0 qE qE qE qE).toArray 33));obtain⟨hB1,hs1,hm1⟩:=zG hw1;obtain⟨bm,hbm⟩:=yM w.heap.size;rw[<- hbm]at hm1;have HBM:=qe hbm;have HBML:=qe (show bm<w1.heap.size by omega);obtain⟨w2,hw2⟩:=yM (w1.alloc (.cells (yT (hdI id) qE qE qE qE).toArray 33));obtain⟨hB2,hs2,hm2⟩:=zG hw2;obtain⟨b8,hb8⟩:=yM w1.heap.size;rw[<- hb8]at hm2;have HM:=qe (hm1.below hB2);have HM8:=qe hm2;have HW1:=qe hw1;have HW2:=qe hw2;have HB8:=qe hb8;have HB1:=qe (gm hB1 hB2);have HBL8:=qe (show b8<w2.heap.size by omega);have HNE:=qe (show bm≠b8 by have:=HBML.out;omega);have HBG:=qe (show w.heap.size<=b8 by have:=hB1.size;omega);clear hw1 hw2 hB1 hB2 hs1 hs2 hm1 hm2 hb8 hbm;obtain⟨cb,hcb⟩:=yM (qo qf);have HC:=qe (zy qf w2);rw[<- hcb]at HC;have HCB:=qe hcb;clear hcb
 go_enter Tryz.func17,Tryz.ntmps17
 go_upto_region 1 with fail;rw[<- HW1.out,<- HBM.out];go_upto_region 4 with fail;rw[<- HW2.out,<- HB8.out];go_wp2_with fail;refine HC.out.mono ?_;rintro e w3 ⟨rfl,hB3⟩;have HB3:=qe hB3;clear hB3
 cases cb
 ·have HK:=qe (show tr.uS qf id=1 by unfold tr.uS;rw[if_pos HCB.out.symm]);rw[Yr];have hmW:=HM.out.below HB3.out;obtain⟨y0,y1,y2,y3,y4,y5,y6,y7,y8,y9,y10,y11,y12,y13⟩:=qi.facts hmW;have f0:=qi.free hmW 0;have f1:=qi.free hmW 1;have f2:=qi.free hmW 2;have f3:=qi.free hmW 3;have f4:=qi.free hmW 4;have f5:=qi.free hmW 5;have f6:=qi.free hmW 6;have f7:=qi.free hmW 7;have f8:=qi.free hmW 8;have f9:=qi.free hmW 9;have f10:=qi.free hmW 10;have f11:=qi.free hmW 11;have f12:=qi.free hmW 12;have f13:=qi.free hmW 13;have hst:=yg hmW hd0 qE qE qE qE;have HST:=qe hst.1;have yX:=qe (show yQ (tr.uS qf id) qf 252 id [] w (.returned (.tuple #[yu hd0 qE qE qE qE,.int .i64 1])) _ from .inl ⟨by rw[HK.out];decide,by rw[HK.out],(gm HB1.out HB3.out).grown hst.2 (gm HB1.out HB3.out).size (λj hj=>by simp only[gM]at hj;rw[<- hj,HBM.out];exact gI _)⟩);clear hmW hst;go_wp2_with fail;exact jr (y:=.int .i64 1) rfl rfl rfl rfl HST.out yX.out
 ·rw[vR];by_cases h1:id<0
  ·have HK:=qe (show tr.uS qf id=23 by unfold tr.uS tr.idI;rw[if_neg (by rw[<- HCB.out];simp),if_pos (.inl h1)]);have d1:decide (id<0)=true:=gF h1;have hmW:=HM.out.below HB3.out;obtain⟨y0,y1,y2,y3,y4,y5,y6,y7,y8,y9,y10,y11,y12,y13⟩:=qi.facts hmW;have f0:=qi.free hmW 0;have f1:=qi.free hmW 1;have f2:=qi.free hmW 2;have f3:=qi.free hmW 3;have f4:=qi.free hmW 4;have f5:=qi.free hmW 5;have f6:=qi.free hmW 6;have f7:=qi.free hmW 7;have f8:=qi.free hmW 8;have f9:=qi.free hmW 9;have f10:=qi.free hmW 10;have f11:=qi.free hmW 11;have f12:=qi.free hmW 12;have f13:=qi.free hmW 13;have hst:=yg hmW hd0 qE qE qE qE;have HST:=qe hst.1;have yX:=qe (show yQ (tr.uS qf id) qf 252 id [] w (.returned (.tuple #[yu hd0 qE qE qE qE,.int .i64 23])) _ from .inl ⟨by rw[HK.out];decide,by rw[HK.out],(gm HB1.out HB3.out).grown hst.2 (gm HB1.out HB3.out).size (λj hj=>by simp only[gM]at hj;rw[<- hj,HBM.out];exact gI _)⟩);clear hmW hst;go_wp2_with fail;exact jr (y:=.int .i64 23) rfl rfl rfl rfl HST.out yX.out
  ·have d1:decide (id<0)=false:=gp h1;by_cases h2:65535<id
   ·have HK:=qe (show tr.uS qf id=23 by unfold tr.uS tr.idI;rw[if_neg (by rw[<- HCB.out];simp),if_pos (.inr h2)]);have d2:decide (65535<id)=true:=gF h2;have hmW:=HM.out.below HB3.out;obtain⟨y0,y1,y2,y3,y4,y5,y6,y7,y8,y9,y10,y11,y12,y13⟩:=qi.facts hmW;have f0:=qi.free hmW 0;have f1:=qi.free hmW 1;have f2:=qi.free hmW 2;have f3:=qi.free hmW 3;have f4:=qi.free hmW 4;have f5:=qi.free hmW 5;have f6:=qi.free hmW 6;have f7:=qi.free hmW 7;have f8:=qi.free hmW 8;have f9:=qi.free hmW 9;have f10:=qi.free hmW 10;have f11:=qi.free hmW 11;have f12:=qi.free hmW 12;have f13:=qi.free hmW 13;have hst:=yg hmW hd0 qE qE qE qE;have HST:=qe hst.1;have yX:=qe (show yQ (tr.uS qf id) qf 252 id [] w (.returned (.tuple #[yu hd0 qE qE qE qE,.int .i64 23])) _ from .inl ⟨by rw[HK.out];decide,by rw[HK.out],(gm HB1.out HB3.out).grown hst.2 (gm HB1.out HB3.out).size (λj hj=>by simp only[gM]at hj;rw[<- hj,HBM.out];exact gI _)⟩);clear hmW hst;go_wp2_with fail;exact jr (y:=.int .i64 23) rfl rfl rfl rfl HST.out yX.out
   ·have HK:=qe (show tr.uS qf id=0 by unfold tr.uS tr.idI;rw[if_neg (by rw[<- HCB.out];simp),if_neg (by omega)]);have d2:decide (65535<id)=false:=gp h2;clear h1 h2;obtain⟨w4,hw4⟩:=yM (w3.alloc (.cells #[.string qf,.int .i64 252,.int .i64 1] 78));obtain⟨hB4,hs4,hx4⟩:=YS w3 w4 ⟨qf,252,1⟩ hw4;obtain⟨g4,hg4⟩:=yM w3.heap.size;rw[<- hg4]at hx4;have hm8:=HM8.out.below (gm HB3.out hB4);have hm1:=HM.out.below (gm HB3.out hB4);obtain⟨w5,hw5⟩:=yM (w4.setCell ⟨b8,10,none⟩ (.slice (some ⟨g4,0,none⟩) 1 1));have hg8:g4≠b8:=by have h1:=HBL8.out;have h2:=Below.size HB3.out;omega
    have hgm:g4≠bm:=by have h0:=HBL8.out;have h1:=HBML.out;have h2:=Below.size HB3.out;have h3:=HB8.out;omega
    have H58:=qe (show qi w5 b8 (hdI id) (.slice (some ⟨g4,0,none⟩) 1 1) qE qE qE by rw[hw5];exact hm8.set10 _);have H51:=qe (show qi w5 bm hd0 qE qE qE qE by rw[hw5];exact(gP _ _ _ _ HNE.out).trans hm1);have H5Q:=qe (show XL w5 g4 0 ⟨qf,252,1⟩ by rw[hw5];exact hx4.keep (gP _ _ _ _ hg8));have H5B:=qe (show Below w.heap.size w w5 by rw[hw5];exact((gm HB1.out HB3.out).trans (hB4.mono (gm HB1.out HB3.out).size)).setCell (p:=⟨b8,10,none⟩) HBG.out _);have H5L:=qe (show g4<w5.heap.size by rw[hw5];simp;omega);have HGM:=qe hgm;have HG8:=qe hg8;have y10:=(qi.facts hm8).2.2.2.2.2.2.2.2.2.2.1;have f10:=qi.free hm8 10;rw[hw4]at y10 f10;have HW5:=qe hw5;have HW4:=qe hw4;have HG4:=qe hg4;clear hw4 hB4 hs4 hx4 hg4 hm8 hm1 hw5 hg8 hgm;go_upto_region 10 with fail;rw[<- HW4.out,<- HG4.out,<- HW5.out];clear y10 f10 d1 d2;obtain⟨y0,y1,y2,y3,y4,y5,y6,y7,y8,y9,y10,y11,y12,y13⟩:=qi.facts H51.out;have f0:=qi.free H51.out 0;have f1:=qi.free H51.out 1;have f2:=qi.free H51.out 2;have f3:=qi.free H51.out 3;have f4:=qi.free H51.out 4;have f5:=qi.free H51.out 5;have f6:=qi.free H51.out 6;have f7:=qi.free H51.out 7;have f8:=qi.free H51.out 8;have f9:=qi.free H51.out 9;have f10:=qi.free H51.out 10;have f11:=qi.free H51.out 11;have f12:=qi.free H51.out 12;have f13:=qi.free H51.out 13;obtain⟨x0,x1,x2,x3,x4,x5,x6,x7,x8,x9,x10,x11,x12,x13⟩:=qi.facts H58.out;have hst:=yg H51.out (hdI id) (.slice (some ⟨g4,0,none⟩) 1 1) qE qE qE;have hq:=qns_one7 (H5Q.out.keep (hst.2.block g4 H5L.out (by simp only[ne_eq,gM];exact λe=>HGM.out e))) (gN H5L.out hst.2.size);have yX:=qe (show yQ (tr.uS qf id) qf 252 id [] w (.returned (.tuple #[yu (hdI id) (.slice (some ⟨g4,0,none⟩) 1 1) qE qE qE,.int .i64 0])) _ from
     .inr ⟨HK.out,_,_,rfl,H5B.out.grown hst.2 H5B.out.size (λj hj=>by simp only[gM]at hj;rw[<- hj,HBM.out];exact gI _),hq,xV _,.inl rfl⟩)
    have HST:=qe hst.1;clear hst hq;go_wp2_with fail;exact jr (y:=.int .i64 0) rfl rfl rfl rfl HST.out yX.out
theorem ask_zone (tz z:Nat)(Z:tr.Zn)(hv:tr.Ok Z)(qf:ByteArray)(id:Int)(w:World)(hz:jB w tz z Z.ap Z.l):
 Calls Tryz.prog 17 #[qX z,.string qf,.int .i64 id] w λe w'=>yQ (tr.idI id) Z.ap 251 id [tr.qZ Z] w e w':=by
 obtain⟨w1,hw1⟩:=yM (w.alloc (.cells (yT hd0 qE qE qE qE).toArray 33));obtain⟨hB1,hs1,hm1⟩:=zG hw1;obtain⟨bm,hbm⟩:=yM w.heap.size;rw[<- hbm]at hm1;have HBM:=qe hbm;have HBML:=qe (show bm<w1.heap.size by omega);obtain⟨w2,hw2⟩:=yM (w1.alloc (.cells (yT (hdI id) qE qE qE qE).toArray 33));obtain⟨hB2,hs2,hm2⟩:=zG hw2;obtain⟨b8,hb8⟩:=yM w1.heap.size;rw[<- hb8]at hm2;have HM:=qe (hm1.below hB2);have HM8:=qe hm2;have HW1:=qe hw1;have HW2:=qe hw2;have HB8:=qe hb8;have HB1:=qe (gm hB1 hB2);have HBL8:=qe (show b8<w2.heap.size by omega);have HNE:=qe (show bm≠b8 by have:=HBML.out;omega);have HBG:=qe (show w.heap.size<=b8 by have:=hB1.size;omega);clear hw1 hw2 hB1 hB2 hs1 hs2 hm1 hm2 hb8 hbm;obtain⟨r,hr⟩:=yM (tr.qZ Z);rw[<- hr];have HAPX:=qe (show Calls Tryz.prog 24 #[qX z] w2 λe w'=>e= .returned (.string Z.ap)/\Below w2.heap.size w2 w' by
  obtain⟨_,_,_,_,_,_,_,h2,_⟩:=(hz.kept HB1.out).v.parts;refine(uH z Z.ap _ _ _ w2 h2).mono ?_;rintro e w' ⟨rfl,rfl⟩;exact⟨rfl,gJ _ _⟩)
 have HSO:=qe (show ∀X,Below w.heap.size w X->Calls Tryz.prog 48 #[qX z] X λe w'=>e= .returned (yf r)/\Below X.heap.size X w' from λX hX=>by rw[hr];exact YO tz z Z hv X (hz.kept hX));clear hv hz hr
 go_enter Tryz.func17,Tryz.ntmps17
 go_upto_region 1 with fail;rw[<- HW1.out,<- HBM.out];go_upto_region 4 with fail;rw[<- HW2.out,<- HB8.out];have HRF:=qe (gJ w2.heap.size w2);by_cases h1:id<0
 ·have HK:=qe (show tr.idI id=23 by unfold tr.idI;rw[if_pos (.inl h1)]);have d1:decide (id<0)=true:=gF h1;have hmW:=HM.out.below HRF.out;obtain⟨y0,y1,y2,y3,y4,y5,y6,y7,y8,y9,y10,y11,y12,y13⟩:=qi.facts hmW;have f0:=qi.free hmW 0;have f1:=qi.free hmW 1;have f2:=qi.free hmW 2;have f3:=qi.free hmW 3;have f4:=qi.free hmW 4;have f5:=qi.free hmW 5;have f6:=qi.free hmW 6;have f7:=qi.free hmW 7;have f8:=qi.free hmW 8;have f9:=qi.free hmW 9;have f10:=qi.free hmW 10;have f11:=qi.free hmW 11;have f12:=qi.free hmW 12;have f13:=qi.free hmW 13;have hst:=yg hmW hd0 qE qE qE qE;have HST:=qe hst.1;have yX:=qe (show yQ (tr.idI id) Z.ap 251 id [r] w (.returned (.tuple #[yu hd0 qE qE qE qE,.int .i64 23])) _ from .inl ⟨by rw[HK.out];decide,by rw[HK.out],(gm HB1.out HRF.out).grown hst.2 (gm HB1.out HRF.out).size (λj hj=>by simp only[gM]at hj;rw[<- hj,HBM.out];exact gI _)⟩);clear hmW hst;go_wp2_with fail;exact jr (y:=.int .i64 23) rfl rfl rfl rfl HST.out yX.out
 ·have d1:decide (id<0)=false:=gp h1;by_cases h2:65535<id
  ·have HK:=qe (show tr.idI id=23 by unfold tr.idI;rw[if_pos (.inr h2)]);have d2:decide (65535<id)=true:=gF h2;have hmW:=HM.out.below HRF.out;obtain⟨y0,y1,y2,y3,y4,y5,y6,y7,y8,y9,y10,y11,y12,y13⟩:=qi.facts hmW;have f0:=qi.free hmW 0;have f1:=qi.free hmW 1;have f2:=qi.free hmW 2;have f3:=qi.free hmW 3;have f4:=qi.free hmW 4;have f5:=qi.free hmW 5;have f6:=qi.free hmW 6;have f7:=qi.free hmW 7;have f8:=qi.free hmW 8;have f9:=qi.free hmW 9;have f10:=qi.free hmW 10;have f11:=qi.free hmW 11;have f12:=qi.free hmW 12;have f13:=qi.free hmW 13;have hst:=yg hmW hd0 qE qE qE qE;have HST:=qe hst.1;have yX:=qe (show yQ (tr.idI id) Z.ap 251 id [r] w (.returned (.tuple #[yu hd0 qE qE qE qE,.int .i64 23])) _ from .inl ⟨by rw[HK.out];decide,by rw[HK.out],(gm HB1.out HRF.out).grown hst.2 (gm HB1.out HRF.out).size (λj hj=>by simp only[gM]at hj;rw[<- hj,HBM.out];exact gI _)⟩);clear hmW hst;go_wp2_with fail;exact jr (y:=.int .i64 23) rfl rfl rfl rfl HST.out yX.out
  ·have HK:=qe (show tr.idI id=0 by unfold tr.idI;rw[if_neg (by omega)]);have d2:decide (65535<id)=false:=gp h2;clear h1 h2;go_wp2_with fail;refine HAPX.out.mono ?_;rintro e w3 ⟨rfl,hB3⟩;have HB3:=qe hB3;clear hB3 d1 d2;obtain⟨w4,hw4⟩:=yM (w3.alloc (.cells #[.string Z.ap,.int .i64 251,.int .i64 1] 78));obtain⟨hB4,hs4,hx4⟩:=YS w3 w4 ⟨Z.ap,251,1⟩ hw4;obtain⟨g4,hg4⟩:=yM w3.heap.size;rw[<- hg4]at hx4;have hm8:=HM8.out.below (gm HB3.out hB4);have hm1:=HM.out.below (gm HB3.out hB4);obtain⟨w5,hw5⟩:=yM (w4.setCell ⟨b8,10,none⟩ (.slice (some ⟨g4,0,none⟩) 1 1));have hg8:g4≠b8:=by have h1:=HBL8.out;have h2:=Below.size HB3.out;omega
   have hgm:g4≠bm:=by have h0:=HBL8.out;have h1:=HBML.out;have h2:=Below.size HB3.out;have h3:=HB8.out;omega
   have H58:=qe (show qi w5 b8 (hdI id) (.slice (some ⟨g4,0,none⟩) 1 1) qE qE qE by rw[hw5];exact hm8.set10 _);have H51:=qe (show qi w5 bm hd0 qE qE qE qE by rw[hw5];exact(gP _ _ _ _ HNE.out).trans hm1);have H5Q:=qe (show XL w5 g4 0 ⟨Z.ap,251,1⟩ by rw[hw5];exact hx4.keep (gP _ _ _ _ hg8));have H5B:=qe (show Below w.heap.size w w5 by rw[hw5];exact((gm HB1.out HB3.out).trans (hB4.mono (gm HB1.out HB3.out).size)).setCell (p:=⟨b8,10,none⟩) HBG.out _);have H5L:=qe (show g4<w5.heap.size by rw[hw5];simp;omega);have HGM:=qe hgm;have HG8:=qe hg8;have y10:=(qi.facts hm8).2.2.2.2.2.2.2.2.2.2.1;have f10:=qi.free hm8 10;rw[hw4]at y10 f10;have HW5:=qe hw5;have HW4:=qe hw4;have HG4:=qe hg4;clear hw4 hB4 hs4 hx4 hg4 hm8 hm1 hw5 hg8 hgm;go_upto_region 3 with fail;rw[<- HW4.out,<- HG4.out,<- HW5.out];clear y10 f10;go_wp2_with fail;refine(HSO.out w5 H5B.out).mono ?_;rintro e w6 ⟨rfl,hB6⟩;obtain⟨w7,hw7⟩:=yM (w6.alloc (.cells (recC r).toArray 80));obtain⟨hB7,hs7,hx7⟩:=zf w6 w7 r hw7;obtain⟨g7,hg7⟩:=yM w6.heap.size;rw[<- hg7]at hx7;have hB57:=gm hB6 hB7;have hm8:=H58.out.below hB57;have hm1:=H51.out.below hB57;obtain⟨w8,hw8⟩:=yM (w7.setCell ⟨b8,12,none⟩ (.slice (some ⟨g7,0,none⟩) 1 1));have hl8:b8<w5.heap.size:=H58.out.lt;have hlm:bm<w5.heap.size:=H51.out.lt;have h56:=hB6.size;have hn8:g7≠b8:=by omega
   have hnm:g7≠bm:=by omega
   have H88:=qe (show qi w8 b8 (hdI id) (.slice (some ⟨g4,0,none⟩) 1 1) qE (.slice (some ⟨g7,0,none⟩) 1 1) qE by rw[hw8];exact hm8.set12 _);have H81:=qe (show qi w8 bm hd0 qE qE qE qE by rw[hw8];exact(gP _ _ _ _ HNE.out).trans hm1);have H8Q:=qe (show XL w8 g4 0 ⟨Z.ap,251,1⟩ by rw[hw8];exact(H5Q.out.keep (hB57.block g4 H5L.out)).keep (gP _ _ _ _ HG8.out));have H8R:=qe (show Zk w8 g7 0 r by rw[hw8];exact hx7.keep (gP _ _ _ _ hn8));have H8B:=qe (show Below w.heap.size w w8 by rw[hw8];exact(gm H5B.out hB57).setCell (p:=⟨b8,12,none⟩) HBG.out _);have H8L:=qe (show g4<w8.heap.size by rw[hw8];have h1:=H5L.out;have h2:=hB57.size;simp;omega);have H8M:=qe (show g7<w8.heap.size by rw[hw8];simp;omega);have HG7:=qe hg7;have HW7:=qe hw7;have HW8:=qe hw8;have HNM:=qe hnm;have y12:=(qi.facts hm8).2.2.2.2.2.2.2.2.2.2.2.2.1;have f12:=qi.free hm8 12;rw[hw7]at y12 f12;clear hB6 hw7 hB7 hs7 hx7 hg7 hB57 hm8 hm1 hw8 hl8 hlm h56 hn8 hnm;go_upto_region 10 with fail;rw[<- HW7.out,<- HG7.out,<- HW8.out];clear y12 f12;obtain⟨y0,y1,y2,y3,y4,y5,y6,y7,y8,y9,y10,y11,y12,y13⟩:=qi.facts H81.out;have f0:=qi.free H81.out 0;have f1:=qi.free H81.out 1;have f2:=qi.free H81.out 2;have f3:=qi.free H81.out 3;have f4:=qi.free H81.out 4;have f5:=qi.free H81.out 5;have f6:=qi.free H81.out 6;have f7:=qi.free H81.out 7;have f8:=qi.free H81.out 8;have f9:=qi.free H81.out 9;have f10:=qi.free H81.out 10;have f11:=qi.free H81.out 11;have f12:=qi.free H81.out 12;have f13:=qi.free H81.out 13;obtain⟨x0,x1,x2,x3,x4,x5,x6,x7,x8,x9,x10,x11,x12,x13⟩:=qi.facts H88.out;have hst:=yg H81.out (hdI id) (.slice (some ⟨g4,0,none⟩) 1 1) qE (.slice (some ⟨g7,0,none⟩) 1 1) qE;have hq:=qns_one7 (H8Q.out.keep (hst.2.block g4 H8L.out (by simp only[ne_eq,gM];exact λe=>HGM.out e))) (gN H8L.out hst.2.size);have hu:=recs_one7 (H8R.out.keep (hst.2.block g7 H8M.out (by simp only[ne_eq,gM];exact λe=>HNM.out e))) (gN H8M.out hst.2.size);have yX:=qe (show yQ (tr.idI id) Z.ap 251 id [r] w (.returned (.tuple #[yu (hdI id) (.slice (some ⟨g4,0,none⟩) 1 1) qE (.slice (some ⟨g7,0,none⟩) 1 1) qE,.int .i64 0])) _ from
    .inr ⟨HK.out,_,_,rfl,H8B.out.grown hst.2 H8B.out.size (λj hj=>by simp only[gM]at hj;rw[<- hj,HBM.out];exact gI _),hq,hu,.inr ⟨_,_,_,_,rfl⟩⟩)
   have HST:=qe hst.1;clear hst hq hu;go_wp2_with fail;exact jr (y:=.int .i64 0) rfl rfl rfl rfl HST.out yX.out
namespace tr
def xK (q:Msg)(n:ByteArray)(t:Int)(au:List Rec):Bool:=decide (q.h=hdI q.h.id) && decide (q.qs= [⟨n,t,1⟩]) && decide (q.au=au) && decide (q.an.length+q.ad.length=0)
theorem asked_many {Z:Option Zn}{q:Msg}(h:q.qs.length≠1):zA Z q=false:=by
 unfold zA
 match e:q.qs with
 | []=>rfl
 | [n]=>rw[e]at h;simp at h
 | _ :: _ :: _=>rfl
theorem ask_code {id:Int}:idI id=0↔0<=id/\id<=65535:=by
 unfold idI
 split <;> omega
theorem asked_all {Z:Option Zn}{q:Msg}{n:Qn}(h:q.qs= [n])(h2:n.typ=252):zA Z q=(decide (uS n.name q.h.id=0) && xK q n.name 252 []):=by
 obtain⟨nm,ty,cl⟩:=n;simp only at h2;subst h2;unfold zA xK;rw[h];simp only[List.cons.injEq,Qn.mk.injEq,and_true,true_and,if_true];have e1:uS nm q.h.id=0↔qo nm=true/\(0<=q.h.id/\q.h.id<=65535):=by
  unfold uS
  cases hc:qo nm
  ·simp
  ·simp[ask_code]
 have e2:(q.au= [])↔q.au.length=0:=List.length_eq_zero_iff.symm;rw[Bool.eq_iff_iff];simp only[gX,H7,e1,e2];constructor
 ·rintro⟨⟨⟨⟨⟨a,b⟩,c⟩,d⟩,e⟩,f,g⟩;exact⟨⟨f,e⟩,⟨⟨a,b⟩,g⟩,by omega⟩
 ·rintro⟨⟨f,e⟩,⟨⟨a,b⟩,g⟩,k⟩;exact⟨⟨⟨⟨⟨a,b⟩,by omega⟩,by omega⟩,e⟩,f,g⟩
theorem asked_none {q:Msg}{n:Qn}(h:q.qs= [n])(h2:n.typ≠252):zA none q=false:=by
 unfold zA;rw[h];simp[h2]
theorem asked_some {A:Zn}{q:Msg}{n:Qn}(h:q.qs= [n])(h2:n.typ≠252):zA (some A) q=(decide (idI q.h.id=0) && xK q A.ap 251 [qZ A]):=by
 obtain⟨nm,ty,cl⟩:=n;unfold zA xK;rw[h];simp only at h2;simp only[List.cons.injEq,Qn.mk.injEq,and_true,if_neg h2];rw[Bool.eq_iff_iff];simp only[gX,H7,ask_code];constructor
 ·rintro⟨⟨⟨⟨⟨a,b⟩,c⟩,d⟩,e⟩,f,g,k⟩;exact⟨e,⟨⟨a,g,f,b⟩,k⟩,by omega⟩
 ·rintro⟨e,⟨⟨a,g,f,b⟩,k⟩,l⟩;exact⟨⟨⟨⟨⟨a,b⟩,by omega⟩,by omega⟩,e⟩,f,g,k⟩
end tr
theorem msg_text {w:World}{b:Nat}{h:Hd}{qa aa ua da:Option Addr}{qn an un dn qc ac uc dc:Nat}(hm:qi w b h (.slice qa qn qc) (.slice aa an ac) (.slice ua un uc) (.slice da dn dc)){i:Nat}{s:ByteArray}:w.cell? ⟨b,i,none⟩≠some (.string s):=by
 unfold qi at hm;rw[qg hm];intro e;have:i<14:=by
  have:=(Array.getElem?_eq_some_iff.1 e).1
  simpa using this
 have h14:i=0\/i=1\/i=2\/i=3\/i=4\/i=5\/i=6\/i=7\/i=8\/i=9\/i=10\/i=11\/i=12\/i=13:=by omega
 rcases h14 with rfl | rfl | rfl | rfl | rfl | rfl | rfl | rfl | rfl | rfl | rfl | rfl | rfl | rfl <;> (simp at e)
theorem qns_off {w w':World}{b:Nat}{h:Hd}{qa aa ua da:Option Addr}{qn an un dn qc ac uc dc:Nat}{v:Value}{l:List Qn}(hr:yw w v l)(hm:qi w b h (.slice qa qn qc) (.slice aa an ac) (.slice ua un uc) (.slice da dn dc))(hg:w.grownBy w' (some b)):yw w' v l:=by
 obtain⟨a,cap,rfl,hc,hx⟩:=hr;refine⟨a,cap,rfl,hc,λk hk=>?_⟩;obtain⟨b',off,e,hb,hq⟩:=hx k hk;have hne:b'≠b:=λe=>by subst e;exact msg_text hm hq.1
 exact⟨b',off,e,gN hb hg.size,hq.keep (hg.block b' hb (by simp only[ne_eq,gM];exact hne))⟩
theorem recs_offM {w w':World}{b:Nat}{h:Hd}{qa aa ua da:Option Addr}{qn an un dn qc ac uc dc:Nat}{v:Value}{l:List Rec}(hr:ql w v l)(hm:qi w b h (.slice qa qn qc) (.slice aa an ac) (.slice ua un uc) (.slice da dn dc))(hg:w.grownBy w' (some b)):ql w' v l:=by
 obtain⟨a,cap,rfl,hc,hx⟩:=hr;refine⟨a,cap,rfl,hc,λk hk=>?_⟩;obtain⟨b',off,e,hb,hq⟩:=hx k hk;have hne:b'≠b:=λe=>by subst e;exact msg_text hm hq.1
 exact⟨b',off,e,gN hb hg.size,hq.keep (hg.block b' hb (by simp only[ne_eq,gM];exact hne))⟩
def VV (w:World)(v:Value)(Z:Option tr.Zn):Prop:=(Z=none/\v= .pointer none)\/∃A z,Z=some A/\v=qX z/\tr.Ok A/\jB w w.heap.size z A.ap A.l
theorem jB.top {w:World}{t z:Nat}{ap:ByteArray}{l:List Rec}(h:jB w t z ap l):jB w w.heap.size z ap l:=⟨QL.new h.v.parts,h.small,h.named,h.sorted⟩
theorem VV.below {w w':World}{v:Value}{Z:Option tr.Zn}(h:VV w v Z)(hB:Below w.heap.size w w'):VV w' v Z:=by
 rcases h with h | ⟨A,z,h1,h2,h3,h4⟩
 ·exact .inl h
 ·exact .inr ⟨A,z,h1,h2,h3,(h4.kept hB).top⟩
theorem ask_one {c:Int}{name:ByteArray}{t i:Int}{au:List Rec}{w:World}{e:Ending}{w':World}(h:yQ c name t i au w e w'):∃h0 qa qn qc ua un uc,e= .returned (.tuple #[yu h0 (.slice qa qn qc) qE (.slice ua un uc) qE,.int .i64 c])/\Below w.heap.size w w'/\
 (c=0->h0=hdI i/\yw w' (.slice qa qn qc) [⟨name,t,1⟩]/\ql w' (.slice ua un uc) au):=by
 rcases h with⟨hc,rfl,hB⟩|⟨hc,g,u,rfl,hB,hq,hr,_⟩
 ·exact⟨hd0,none,0,0,none,0,0,rfl,hB,λh=>absurd h hc⟩
 ·obtain⟨ua,uc,rfl,-⟩:=id hr;subst hc;exact⟨hdI i,_,_,_,_,_,_,rfl,hB,λ_=>⟨rfl,hq,hr⟩⟩
def AskW (Z:Option tr.Zn)(q:Msg)(c:Int)(b5:Nat)(w:World):Prop:=∃n t au h0 qa qn qc ua un uc,tr.zA Z q=(decide (c=0) && tr.xK q n t au)/\au.length<=1/\qi w b5 h0 (.slice qa qn qc) qE (.slice ua un uc) qE/\
 (c=0->h0=hdI q.h.id/\yw w (.slice qa qn qc) [⟨n,t,1⟩]/\ql w (.slice ua un uc) au)
theorem askW_store {Z:Option tr.Zn}{q:Msg}{c:Int}{b5:Nat}{w X:World}{h0:Hd}{qa ua:Option Addr}{qn qc un uc:Nat}{n:ByteArray}{t:Int}{au:List Rec}(hb:w.heap.size<=b5)(hB:Below w.heap.size w X)(hm:qi X b5 hd0 qE qE qE qE)(hz:tr.zA Z q=(decide (c=0) && tr.xK q n t au))(hl:au.length<=1)
 (h:c=0->h0=hdI q.h.id/\yw X (.slice qa qn qc) [⟨n,t,1⟩]/\ql X (.slice ua un uc) au):
 AskW Z q c b5 ((((((((((((((X.setCell ⟨b5,0,none⟩ (.int .i64 h0.id)).setCell ⟨b5,1,none⟩ (.bool h0.KW)).setCell ⟨b5,2,none⟩ (.int .i64 h0.op)).setCell ⟨b5,3,none⟩ (.bool h0.aa)).setCell ⟨b5,4,none⟩ (.bool h0.tc)).setCell ⟨b5,5,none⟩ (.bool h0.rd)).setCell ⟨b5,6,none⟩ (.bool h0.ra)).setCell ⟨b5,7,none⟩ (.bool h0.ad)).setCell ⟨b5,8,none⟩ (.bool h0.cd)).setCell ⟨b5,9,none⟩ (.int .i64 h0.yL)).setCell ⟨b5,10,none⟩ (.slice qa qn qc)).setCell ⟨b5,11,none⟩ qE).setCell ⟨b5,12,none⟩ (.slice ua un uc)).setCell ⟨b5,13,none⟩ qE)/\
 Below w.heap.size w ((((((((((((((X.setCell ⟨b5,0,none⟩ (.int .i64 h0.id)).setCell ⟨b5,1,none⟩ (.bool h0.KW)).setCell ⟨b5,2,none⟩ (.int .i64 h0.op)).setCell ⟨b5,3,none⟩ (.bool h0.aa)).setCell ⟨b5,4,none⟩ (.bool h0.tc)).setCell ⟨b5,5,none⟩ (.bool h0.rd)).setCell ⟨b5,6,none⟩ (.bool h0.ra)).setCell ⟨b5,7,none⟩ (.bool h0.ad)).setCell ⟨b5,8,none⟩ (.bool h0.cd)).setCell ⟨b5,9,none⟩ (.int .i64 h0.yL)).setCell ⟨b5,10,none⟩ (.slice qa qn qc)).setCell ⟨b5,11,none⟩ qE).setCell ⟨b5,12,none⟩ (.slice ua un uc)).setCell ⟨b5,13,none⟩ qE):=by
 have hst:=yg hm h0 (.slice qa qn qc) qE (.slice ua un uc) qE;refine⟨⟨n,t,au,h0,qa,qn,qc,ua,un,uc,hz,hl,hst.1,λhc=>?_⟩,hB.grown hst.2 hB.size (λj hj=>by simp only[gM]at hj;omega)⟩;obtain⟨h1,h2,h3⟩:=h hc;exact⟨h1,qns_off h2 hm hst.2,recs_offM h3 hm hst.2⟩
theorem asked_any (Z:Option tr.Zn)(zv:Value)(hi:Int)(rs:Bool)(op:Int)(b3 b4 b5 b6 b7 b8:Bool)(rc:Int)(qs:List Qn)(an au ad:List Rec)
 (hq:qs.length<=1000000000000) (ha:an.length<=1000000000000) (hu:au.length<=1000000000000) (hd:ad.length<=1000000000000)
 (q a u d:Value) (w:World) (hz:VV w zv Z) (rq:yw w q qs) (ra:ql w a an) (ru:ql w u au) (rd:ql w d ad):
 Calls Tryz.prog 88 #[zv,yu ⟨hi,rs,op,b3,b4,b5,b6,b7,b8,rc⟩ q a u d] w λe w'=>e= .returned (.bool (tr.zA Z ⟨⟨hi,rs,op,b3,b4,b5,b6,b7,b8,rc⟩,qs,an,au,ad⟩))/\Below w.heap.size w w':=by
 obtain⟨w1,hw1⟩:=yM (w.alloc (.cells (yT ⟨hi,rs,op,b3,b4,b5,b6,b7,b8,rc⟩ q a u d).toArray 33));obtain⟨hB1,hs1,hm1⟩:=zG hw1;obtain⟨bm,hbm⟩:=yM w.heap.size;rw[<- hbm]at hm1;obtain⟨w2,hw2⟩:=yM (w1.alloc (.cells (yT hd0 qE qE qE qE).toArray 33));obtain⟨hB2,hs2,hm2⟩:=zG hw2;obtain⟨bw,hbw⟩:=yM w1.heap.size;rw[<- hbw]at hm2;have HZ:=qe (hz.below (gm hB1 hB2));have HQ:=qe (rq.below hB1);have HU:=qe (ru.below hB1);obtain⟨qa,qc,rfl,-⟩:=id rq;obtain⟨aa,ac,rfl,-⟩:=id ra;obtain⟨ua,uc,rfl,-⟩:=id ru;obtain⟨da,dc,rfl,-⟩:=id rd;have HM:=qe hm1;have HW1:=qe hw1;have HBM:=qe hbm;have HB1:=qe hB1;have HM5:=qe hm2;have HW2:=qe hw2;have HBW:=qe hbw;have HB2:=qe hB2;have HLQ:=qe hq;have HLU:=qe hu;have HLA:=qe ha;have HLD:=qe hd;have HBWL:=qe (show w1.heap.size<=bw by omega);clear hw1 hB1 hs1 hm1 hbm hw2 hB2 hs2 hm2 hbw hz rq ra ru rd hq ha hu hd;have HRF:=qe (gJ w1.heap.size w1);obtain⟨m0,m1,m2,m3,m4,m5,m6,m7,m8,m9,m10,m11,m12,m13⟩:=(HM.out.below HRF.out).facts
 go_enter Tryz.func88,Tryz.ntmps88
 go_upto_region 1 with fail;rw[<- HW1.out,<- HBM.out];by_cases hq1:qs.length=1
 ·have e4:((qs.length:Int) != 1)=false:=by rw[Hy];omega
  obtain⟨_,_,hv,-,hr0⟩:=HQ.out.below HB2.out;simp only[gL,true_and]at hv;obtain⟨rfl,rfl⟩:=hv;obtain⟨qb,Qm,rfl,hqb,c0,c1,c2⟩:=hr0 0 (by omega);obtain⟨q0,hq0⟩:=yM (qs[0]'(by omega));rw[<- hq0]at c0 c1 c2;simp only[Nat.zero_mul,Nat.add_zero]at c0 c1 c2;have hqs:qs= [q0]:=by
   obtain⟨y,hy⟩:=List.length_eq_one_iff.1 hq1;have:q0=y:=by rw[hq0];simp[hy]
   rw[this,hy]
  have hl0:0<qs.length:=by omega
  have HQS:=qe hqs;clear hr0 hqb hq0 hqs hq1;go_upto_region 4 with fail;rw[<- HW2.out,<- HBW.out];clear m0 m1 m2 m3 m4 m5 m6 m7 m8 m9 m10 m11 m12 m13;obtain⟨m0,m1,m2,m3,m4,m5,m6,m7,m8,m9,m10,m11,m12,m13⟩:=(HM.out.below HB2.out).facts
  go_upto_if 16 with fail
  go_cut [6] (λs wx=>∃c:Int,s= .int .i64 c/\Hid (Below w1.heap.size w1 wx)/\Hid (AskW Z ⟨⟨hi,rs,op,b3,b4,b5,b6,b7,b8,rc⟩,qs,an,au,ad⟩ c bw wx))
  case first=>
   by_cases Kl:q0.typ=252
   ·have e5:(q0.typ == 252)=true:=by rw[Hz];exact Kl
    have HK:=qe (tr.asked_all (Z:=Z) (q:=⟨⟨hi,rs,op,b3,b4,b5,b6,b7,b8,rc⟩,qs,an,au,ad⟩) HQS.out Kl);have HAN:=qe (show ∀X,Calls Tryz.prog 17 #[.pointer none,.string q0.name,.int .i64 hi] X λe w'=>yQ (tr.uS q0.name hi) q0.name 252 hi [] X e w' from λX=>ask_nil q0.name hi X);clear Kl;go_upto_region 6 with fail
    go_region_with (go_at_call 17;(with_reducible refine(HAN.out _).mono ?_);intro e wA hp;obtain⟨h0,qa',qn',qc',ua',un',uc',rfl,hbA,hcA⟩:=ask_one hp;have hA2:=Below.trans (B:=w2.heap.size) (a:=w2) (gJ _ _).drew (hbA.mono (gI _));obtain⟨y0,y1,y2,y3,y4,y5,y6,y7,y8,y9,y10,y11,y12,y13⟩:=qi.facts (HM5.out.below hA2);have f0:=qi.free (HM5.out.below hA2) 0;have f1:=qi.free (HM5.out.below hA2) 1;have f2:=qi.free (HM5.out.below hA2) 2;have f3:=qi.free (HM5.out.below hA2) 3;have f4:=qi.free (HM5.out.below hA2) 4;have f5:=qi.free (HM5.out.below hA2) 5;have f6:=qi.free (HM5.out.below hA2) 6;have f7:=qi.free (HM5.out.below hA2) 7;have f8:=qi.free (HM5.out.below hA2) 8;have f9:=qi.free (HM5.out.below hA2) 9;have f10:=qi.free (HM5.out.below hA2) 10;have f11:=qi.free (HM5.out.below hA2) 11;have f12:=qi.free (HM5.out.below hA2) 12;have f13:=qi.free (HM5.out.below hA2) 13)
    all_goals
     have hst:=askW_store (Z:=Z) (q:=⟨⟨hi,rs,op,b3,b4,b5,b6,b7,b8,rc⟩,qs,an,au,ad⟩) HBWL.out (gm HB2.out hA2) (HM5.out.below hA2) HK.out (by simp) hcA;go_wp2_with fail;go_meet;exact⟨_,rfl,qe hst.2,qe hst.1⟩
   ·have e5:(q0.typ == 252)=false:=by rw[gG];exact Kl
    rcases HZ.out with⟨rfl,rfl⟩|⟨A,z,rfl,rfl,hok,hzf⟩
    ·have HK:=qe (tr.asked_none (q:=⟨⟨hi,rs,op,b3,b4,b5,b6,b7,b8,rc⟩,qs,an,au,ad⟩) HQS.out Kl);clear Kl;go_wp2_with fail;go_meet;exact⟨8,rfl,HB2,qe ⟨ByteArray.empty,0,[],hd0,none,0,0,none,0,0,by rw[HK.out];rfl,by simp,HM5.out,λh=>absurd h (by decide)⟩⟩
    ·have HK:=qe (tr.asked_some (A:=A) (q:=⟨⟨hi,rs,op,b3,b4,b5,b6,b7,b8,rc⟩,qs,an,au,ad⟩) HQS.out Kl);have HAZ:=qe (ask_zone w2.heap.size z A hok ⟨#[]⟩ hi w2 hzf);clear Kl hok hzf;go_upto_region 8 with fail;go_wp2_with fail;refine HAZ.out.mono ?_;intro e wA hp;obtain⟨h0,qa',qn',qc',ua',un',uc',rfl,hA2,hcA⟩:=ask_one hp;have hm5:=HM5.out.below hA2;obtain⟨y0,y1,y2,y3,y4,y5,y6,y7,y8,y9,y10,y11,y12,y13⟩:=qi.facts hm5;have f0:=qi.free hm5 0;have f1:=qi.free hm5 1;have f2:=qi.free hm5 2;have f3:=qi.free hm5 3;have f4:=qi.free hm5 4;have f5:=qi.free hm5 5;have f6:=qi.free hm5 6;have f7:=qi.free hm5 7;have f8:=qi.free hm5 8;have f9:=qi.free hm5 9;have f10:=qi.free hm5 10;have f11:=qi.free hm5 11;have f12:=qi.free hm5 12;have f13:=qi.free hm5 13;have hst:=askW_store (Z:=some A) (q:=⟨⟨hi,rs,op,b3,b4,b5,b6,b7,b8,rc⟩,qs,an,au,ad⟩) HBWL.out (gm HB2.out hA2) hm5 HK.out (by simp) hcA;have HST:=qe hst;clear hst hp hm5 hA2 hcA;go_wp2_with fail;go_meet;exact⟨_,rfl,qe HST.out.2,qe HST.out.1⟩
  obtain⟨c,rfl,HBX,HW⟩:=hcut;obtain⟨n,t,au',h0,qa',qn',qc',ua',un',uc',hK,hal,hmW,hcc⟩:=HW.out;have HK:=qe hK;have HMW:=qe hmW;have HAL:=qe hal;have HBC:=qe (gm HB1.out HBX.out);clear hK hmW hal HW c0 c1 c2 hl0 e4;clear m0 m1 m2 m3 m4 m5 m6 m7 m8 m9 m10 m11 m12 m13;obtain⟨wx,hwx⟩:=yM wc;subst hwx;obtain⟨m0,m1,m2,m3,m4,m5,m6,m7,m8,m9,m10,m11,m12,m13⟩:=(HM.out.below HBX.out).facts;by_cases hc0:c=0
  ·have e1:(c == 0)=true:=by rw[Hz];exact hc0
   obtain⟨rfl,hqX,huX⟩:=hcc hc0;obtain⟨rfl,-,-,-⟩:qn'=1/\True/\True/\True:=⟨by obtain⟨_,_,e,_⟩:=hqX;simp only[gL]at e;exact e.2.1,trivial,trivial,trivial⟩;obtain rfl:un'=au'.length:=by obtain⟨_,_,e,_⟩:=huX;simp only[gL]at e;exact e.2.1
   have HC0:=qe hc0;have HQX:=qe hqX;have HUX:=qe huX;clear hc0 hcc hqX huX;obtain⟨z0,z1,z2,z3,z4,z5,z6,z7,z8,z9,z10,z11,z12,z13⟩:=qi.facts HMW.out;have e2:(hi == hi)=true:=by rw[Hz]
   cases rs
   ·skip
    by_cases hop:op=0
    ·have dop:(op == 0)=true:=by rw[Hz];exact hop
     have HOP:=qe hop;clear hop
     cases b3
     ·skip
      cases b4
      ·skip
       cases b5
       ·skip
        cases b6
        ·skip
         cases b7
         ·skip
          cases b8
          ·skip
           by_cases hrc:rc=0
           ·have drc:(rc == 0)=true:=by rw[Hz];exact hrc
            have HRC:=qe hrc;clear hrc;obtain⟨eb,heb⟩:=yM (decide (qs= [⟨n,t,1⟩]));have HEB:=qe heb;have CQ:=qe (show Calls Tryz.prog 89 #[.slice (some ⟨qb,Qm,none⟩) qs.length qc,.slice qa' 1 qc'] wx λe w'=>e= .returned (.bool eb)/\Below wx.heap.size wx w' from by rw[heb];exact equalQ_any qs [⟨n,t,1⟩] HLQ.out _ _ wx (HQ.out.below HBX.out) HQX.out);clear heb;go_wp2_with fail;refine CQ.out.mono ?_;rintro e wy ⟨rfl,hBY⟩;have HBXY:=qe (gm HBX.out hBY);have HBY:=qe hBY;have HBCY:=qe (gm HB1.out HBXY.out);clear hBY z0 z1 z2 z3 z4 z5 z6 z7 z8 z9 z10 z11 z12 z13;clear m0 m1 m2 m3 m4 m5 m6 m7 m8 m9 m10 m11 m12 m13;obtain⟨m0,m1,m2,m3,m4,m5,m6,m7,m8,m9,m10,m11,m12,m13⟩:=(HM.out.below HBXY.out).facts;obtain⟨z0,z1,z2,z3,z4,z5,z6,z7,z8,z9,z10,z11,z12,z13⟩:=qi.facts (HMW.out.below HBY.out)
            cases eb
            ·
             have HR:=qe (show tr.zA Z ⟨⟨hi,false,op,false,false,false,false,false,false,rc⟩,qs,an,au,ad⟩=false from by rw[HK.out];(have:=HEB.out;simp[tr.xK,<- HEB.out]));go_wp2_with fail;go_ret;exact⟨qI HR.out.symm,HBCY.out⟩
            ·obtain⟨ea,hea⟩:=yM (decide (au=au'));have HEA:=qe hea;have CR:=qe (show Calls Tryz.prog 136 #[.slice ua au.length uc,.slice ua' au'.length uc'] wy λe w'=>e= .returned (.bool ea)/\Below wy.heap.size wy w' from by rw[hea];exact equalR_any au au' HLU.out _ _ wy (HU.out.below HBXY.out) (HUX.out.below HBY.out));clear hea;go_wp2_with fail;refine CR.out.mono ?_;rintro e wv ⟨rfl,hBV⟩;have HBXV:=qe (gm HBXY.out hBV);have HBCV:=qe (gm HB1.out HBXV.out);clear hBV z0 z1 z2 z3 z4 z5 z6 z7 z8 z9 z10 z11 z12 z13;clear m0 m1 m2 m3 m4 m5 m6 m7 m8 m9 m10 m11 m12 m13;obtain⟨m0,m1,m2,m3,m4,m5,m6,m7,m8,m9,m10,m11,m12,m13⟩:=(HM.out.below HBXV.out).facts
             cases ea
             ·
              have HR:=qe (show tr.zA Z ⟨⟨hi,false,op,false,false,false,false,false,false,rc⟩,qs,an,au,ad⟩=false from by rw[HK.out];(simp[tr.xK,<- HEA.out]));go_wp2_with fail;go_ret;exact⟨qI HR.out.symm,HBCV.out⟩
             ·obtain⟨el,hel⟩:=yM (decide (an.length+ad.length=0));have ew:IntKind.i64.wrap ((an.length:Int)+(ad.length:Int))=(an.length:Int)+(ad.length:Int):=Hg _ (by have:=HLA.out;have:=HLD.out;omega);have e9:((an.length:Int)+(ad.length:Int) == 0)=el:=by
               rw[hel];by_cases hz:an.length+ad.length=0
               ·rw[gF hz,Hz];omega
               ·rw[gp hz,gG];omega
              have HR:=qe (show tr.zA Z ⟨⟨hi,false,op,false,false,false,false,false,false,rc⟩,qs,an,au,ad⟩=el from by rw[HK.out,HC0.out,hel];simp[tr.xK,hdI,HOP.out,HRC.out,<- HEB.out,<- HEA.out]);clear hel;go_wp2_with fail;go_ret;exact⟨qI HR.out.symm,HBCV.out⟩
           ·have drc:(rc == 0)=false:=by rw[gG];exact hrc
            have HR:=qe (show tr.zA Z ⟨⟨hi,false,op,false,false,false,false,false,false,rc⟩,qs,an,au,ad⟩=false from by rw[HK.out];(simp[tr.xK,hdI,hrc]));go_wp2_with fail;go_ret;exact⟨qI HR.out.symm,HBC.out⟩
          ·have HR:=qe (show tr.zA Z ⟨⟨hi,false,op,false,false,false,false,false,true,rc⟩,qs,an,au,ad⟩=false from by rw[HK.out];(simp[tr.xK,hdI]));go_wp2_with fail;go_ret;exact⟨qI HR.out.symm,HBC.out⟩
         ·have HR:=qe (show tr.zA Z ⟨⟨hi,false,op,false,false,false,false,true,b8,rc⟩,qs,an,au,ad⟩=false from by rw[HK.out];(simp[tr.xK,hdI]));go_wp2_with fail;go_ret;exact⟨qI HR.out.symm,HBC.out⟩
        ·have HR:=qe (show tr.zA Z ⟨⟨hi,false,op,false,false,false,true,b7,b8,rc⟩,qs,an,au,ad⟩=false from by rw[HK.out];(simp[tr.xK,hdI]));go_wp2_with fail;go_ret;exact⟨qI HR.out.symm,HBC.out⟩
       ·have HR:=qe (show tr.zA Z ⟨⟨hi,false,op,false,false,true,b6,b7,b8,rc⟩,qs,an,au,ad⟩=false from by rw[HK.out];(simp[tr.xK,hdI]));go_wp2_with fail;go_ret;exact⟨qI HR.out.symm,HBC.out⟩
      ·have HR:=qe (show tr.zA Z ⟨⟨hi,false,op,false,true,b5,b6,b7,b8,rc⟩,qs,an,au,ad⟩=false from by rw[HK.out];(simp[tr.xK,hdI]));go_wp2_with fail;go_ret;exact⟨qI HR.out.symm,HBC.out⟩
     ·have HR:=qe (show tr.zA Z ⟨⟨hi,false,op,true,b4,b5,b6,b7,b8,rc⟩,qs,an,au,ad⟩=false from by rw[HK.out];(simp[tr.xK,hdI]));go_wp2_with fail;go_ret;exact⟨qI HR.out.symm,HBC.out⟩
    ·have dop:(op == 0)=false:=by rw[gG];exact hop
     have HR:=qe (show tr.zA Z ⟨⟨hi,false,op,b3,b4,b5,b6,b7,b8,rc⟩,qs,an,au,ad⟩=false from by rw[HK.out];(simp[tr.xK,hdI,hop]));go_wp2_with fail;go_ret;exact⟨qI HR.out.symm,HBC.out⟩
   ·have HR:=qe (show tr.zA Z ⟨⟨hi,true,op,b3,b4,b5,b6,b7,b8,rc⟩,qs,an,au,ad⟩=false from by rw[HK.out];(simp[tr.xK,hdI]));go_wp2_with fail;go_ret;exact⟨qI HR.out.symm,HBC.out⟩
  ·have e1:(c == 0)=false:=by rw[gG];exact hc0
   have HR:=qe (show tr.zA Z ⟨⟨hi,rs,op,b3,b4,b5,b6,b7,b8,rc⟩,qs,an,au,ad⟩=false from by rw[HK.out];(simp[hc0]));go_wp2_with fail;go_ret;exact⟨qI HR.out.symm,HBC.out⟩
 ·have e4:((qs.length:Int) != 1)=true:=by rw[bne_iff_ne];omega
  have HR:=qe (show tr.zA Z ⟨⟨hi,rs,op,b3,b4,b5,b6,b7,b8,rc⟩,qs,an,au,ad⟩=false from tr.asked_many hq1);go_wp2_with fail;go_ret;exact⟨qI HR.out.symm,HB1.out⟩
theorem Yj {w:World}{ty:TypeId}(base:Nat)(v:Value)(n:Nat)(xs:List Value)(hown:w.ownsRow base 80 5 v n xs)(u:Value)(l:List Rec)(hu:ql w u l)(hl:n+l.length<=1000000000)(hbase:base<=w.heap.size):
 ∃v' w',(Builtin.append_ #[31,31] ty #[v,u]).run Tryz.prog w= .ok v' w'/\w'.ownsRow base 80 5 v' (n+l.length) (xs ++ qw l)/\w.grownBy w' v.ownBlock/\∀b,v'.ownBlock=some b->v.ownBlock=some b\/w.heap.size<=b:=by
 obtain⟨i,hi,hz,hz1,hz2⟩:=info_parts kT;obtain⟨a,cap,rfl,hcap,hr⟩:=id hu
 cases a with
 | none=>
   have h0:l= []:=by
    match l,hr with
    | [],_=>rfl
    | x :: t,hr=>obtain⟨b,off,e,_⟩:=hr 0 (by simp);cases e
   subst h0;obtain⟨va,vc,rfl,hvc⟩:=qj hown;have hr:=run_append_nothing (P:=Tryz.prog) w 31 31 ty 80 i Tryz.underlying31 hi va n vc hvc (.slice none 0 cap) (Src.ofNil w Tryz.underlying31 cap);exact⟨_,w,hr,by simpa[qw] using hown,⟨rfl,rfl,rfl,gI _,λ_ _ _=>rfl⟩,λb hb=>.inl hb⟩
 | some ad=>
   obtain⟨hn,hc⟩:=ZE hu
   obtain⟨v',w',hr,h2,h3,_⟩:=run_append_own (P:=Tryz.prog) w base 31 ty 80 i (.agg #[.string ⟨#[]⟩,.int .i64 0,.int .i64 0,.int .i64 0,.string ⟨#[]⟩]) 5 56 Tryz.underlying31 hi hz hz1 hz2 rfl (by decide) v n xs hown ad l.length cap (qw l) (zM l) hc (xe l)
    (by unfold maxLen;omega) (by omega) hbase
   have h4:=QU w base 31 ty 80 i (.agg #[.string ⟨#[]⟩,.int .i64 0,.int .i64 0,.int .i64 0,.string ⟨#[]⟩]) 5 56 Tryz.underlying31 hi hz hz1 hz2 v n xs hown ad l.length cap (qw l) (zM l) hc (xe l)
    (by unfold maxLen;omega) (by omega) hr
   exact⟨v',w',hr,h2,h3,h4⟩
theorem Ki {ops:Array Oper}{rest:List Oper}{o:Oper}{a:Act}{Q:Exit->Act->World->Prop}{w:World}(hgd:o.guard=none)(s x:Operand)
 (ho:o.op= .call { callee:=.builtin .append,args:=#[s,x],argTypes:=#[31,31]})
 (base:Nat) (v:Value) (n:Nat) (xs:List Value) (hs:a.eval s=v) (hown:w.ownsRow base 80 5 v n xs)
 (u:Value) (l:List Rec) (hu:ql w u l) (hx:a.eval x=u) (hl:n+l.length<=1000000000) (hbase:base<=w.heap.size)
 (h:∀v' w',w'.ownsRow base 80 5 v' (n+l.length) (xs ++ qw l)->w.grownBy w' v.ownBlock->(∀b,v'.ownBlock=some b->v.ownBlock=some b\/w.heap.size<=b)->wpList Tryz.prog ops Q rest (a.put o.dst v') w'):wpList Tryz.prog ops Q (o :: rest) a w:=by
 obtain⟨v',w',hr,h2,h3,h4⟩:=Yj (ty:=o.type) base v n xs hown u l hu hl hbase;refine wpList_plain hgd λK hK=>?_;unfold Oper.wp execOp;simp only[ho,resolve,invoke,builtin,Sem.run_bind,Sem.run_pure,Result.andThen_ok,List.map_toArray,List.map_cons,List.map_nil,hs,hx,hr];exact hK _ _ (h v' w' h2 h3 h4)
theorem yN {ops:Array Oper}{o:Oper}{a:Act}{w:World}{K:Act->World->Prop}{Q:Exit->Act->World->Prop}{E:Prop}(hgd:o.guard=none)(s x:Operand)
 (ho:o.op= .call { callee:=.builtin .append,args:=#[s,x],argTypes:=#[31,31]})
 (base:Nat) (v:Value) (n:Nat) (xs:List Value) (hs:a.eval s=v) (hown:w.ownsRow base 80 5 v n xs)
 (u:Value) (l:List Rec) (hu:ql w u l) (hx:a.eval x=u) (hl:n+l.length<=1000000000) (hbase:base<=w.heap.size)
 (h:∀v' w',w'.ownsRow base 80 5 v' (n+l.length) (xs ++ qw l)->w.grownBy w' v.ownBlock->(∀b,v'.ownBlock=some b->v.ownBlock=some b\/w.heap.size<=b)->K (a.put o.dst v') w'):
 if Region.wanted o (yielded ops a.tmps)=true then Oper.wp Tryz.prog o a w K Q else E:=by
 obtain⟨v',w',hr,h2,h3,h4⟩:=Yj (ty:=o.type) base v n xs hown u l hu hl hbase;have hw:Region.wanted o (yielded ops a.tmps)=true:=by simp[Region.wanted,hgd]
 rw[if_pos hw];unfold Oper.wp;simp[execOp,ho,resolve,invoke,builtin,hs,hx,hr,Result.andThen];exact h v' w' h2 h3 h4
namespace tr
section
variable {Z:Option Zn}{q:Msg}{xs:List Msg}
theorem xO (h:zA Z q=false):jf Z q xs= .err 8:=if_pos h
theorem take_nil (h:zA Z q=true):jf Z q []= .err 10:=by unfold jf;rw[if_neg (by rw[h];simp)];exact if_pos rfl
theorem Q7 (h:zA Z q=true){k:Nat}(hk:k<xs.length)(hb:xH q xs[k]=true):jf Z q xs= .err 8:=by
 unfold jf;rw[if_neg (by rw[h];simp),if_neg (by omega),if_pos (List.any_eq_true.2 ⟨_,Ht hk,hb⟩)]
theorem any_no {f:Msg->Bool}(h:∀j (hj:j<xs.length),f xs[j]=false):¬(xs.any f=true):=by
 rw[List.any_eq_true];rintro⟨m,hm,h1⟩;obtain⟨j,hj,rfl⟩:=List.getElem_of_mem hm;rw[h j hj]at h1
 cases h1
theorem take_code (h:zA Z q=true)(hn:∀j (hj:j<xs.length),xH q xs[j]=false){k:Nat}(hk:k<xs.length)(hb:xs[k].h.yL≠0):jf Z q xs= .err 28:=by
 unfold jf;rw[if_neg (by rw[h];simp),if_neg (by omega),if_neg (any_no hn),if_pos (List.any_eq_true.2 ⟨_,Ht hk,by simp[hb]⟩)]
theorem take_row (h:zA Z q=true)(h0:xs.length≠0)(hn:∀j (hj:j<xs.length),xH q xs[j]=false)(hc:∀j (hj:j<xs.length),xs[j].h.yL=0):jf Z q xs=QO (if(Xf q).typ=251 then Z else none) (Xf q).name (rowsOf xs):=by
 unfold jf;rw[if_neg (by rw[h];simp),if_neg h0,if_neg (any_no hn),if_neg (any_no λj hj=>by simp[hc j hj])]
theorem rows_next {k:Nat}(hk:k<xs.length):rowsOf (xs.take (k+1))=rowsOf (xs.take k) ++ xs[k].an:=by
 unfold rowsOf;rw[gV hk,List.flatMap_append,List.flatMap_singleton]
theorem rows_le {k:Nat}:(rowsOf (xs.take k)).length<=(rowsOf xs).length:=by
 unfold rowsOf;rw[<- List.take_append_drop k xs,List.flatMap_append,gK,List.take_append_drop];exact Nat.le_add_right _ _
theorem asked_one (h:zA Z q=true):∃n0,q.qs= [n0]/\Xf q=n0/\n0.cls=1/\q.h.op=0/\((n0.typ=252/\qo n0.name=true/\q.au.length=0)\/(n0.typ=251/\∃A,Z=some A/\n0.name=A.ap/\q.au= [qZ A])):=by
 unfold zA at h
 match e:q.qs with
 | []=>rw[e]at h;cases h
 | _ :: _ :: _=>rw[e]at h;cases h
 | [n0]=>
   rw[e]at h;simp only[gX,H7]at h;obtain⟨⟨⟨⟨⟨h1,h2⟩,h3⟩,h4⟩,h5⟩,h6⟩:=h;refine⟨n0,rfl,by unfold Xf;rw[e],h2,by rw[h1],?_⟩;by_cases ht:n0.typ=252
   ·rw[if_pos ht]at h6;simp only[gX,H7]at h6;exact .inl ⟨ht,h6.1,h6.2⟩
   ·rw[if_neg ht]at h6
    cases Z with
    | none=>cases h6
    | some A=>
      have h7:=of_decide_eq_true h6;exact .inr ⟨h7.1,A,rfl,h7.2.1,h7.2.2⟩
theorem bad_rows {m:Msg}(h:xH q m=false):∀r∈m.an,wi.qP r=true:=by
 unfold xH at h;have h2:wi.jL m.h m.qs m.an m.au m.ad=true:=by
  cases e:wi.jL m.h m.qs m.an m.au m.ad
  ·rw[e]at h;simp at h
  ·rfl
 unfold wi.jL at h2;simp only[gX,List.all_eq_true]at h2;exact h2.1.1.2
end
end tr
def qU (o:tr.Out)(zv:Value)(w:World)(e:Ending)(w':World):Prop:=match o with
 | .err c=>c≠0/\Below w.heap.size w w'/\e= .returned (.tuple #[.pointer none,.int .i64 c])
 | .same=>Below w.heap.size w w'/\e= .returned (.tuple #[zv,.int .i64 0])
 | .make ap l=>jZ ap l w e w'
theorem jZ.from {ap:ByteArray}{l:List Rec}{w w1 w':World}{e:Ending}(hB:Below w.heap.size w w1)(h:jZ ap l w1 e w'):jZ ap l w e w':=⟨hB.trans (h.1.mono hB.size),h.2⟩
theorem jZ.two {ap:ByteArray}{l:List Rec}{w w':World}{e:Ending}(h:jZ ap l w e w'):Below w.heap.size w w'/\∃r1 r2,e= .returned (.tuple #[r1,r2])/\jZ ap l w (.returned (.tuple #[r1,r2])) w':=by
 refine⟨h.1,?_⟩;rcases h with⟨hB,⟨h1,y,L,hs,rfl,hz⟩|⟨k,c,h1,h2,rfl⟩⟩
 ·exact⟨_,_,rfl,hB,.inl ⟨h1,y,L,hs,rfl,hz⟩⟩
 ·exact⟨_,_,rfl,hB,.inr ⟨k,c,h1,h2,rfl⟩⟩
theorem qU.from {o:tr.Out}{zv:Value}{w w1 w':World}{e:Ending}(hB:Below w.heap.size w w1)(h:qU o zv w1 e w'):qU o zv w e w':=by
 cases o with
 | err c=>exact⟨h.1,hB.trans (h.2.1.mono hB.size),h.2.2⟩
 | same=>exact⟨hB.trans (h.1.mono hB.size),h.2⟩
 | make ap l=>exact jZ.from hB h
theorem qU.two {o:tr.Out}{zv:Value}{w w':World}{e:Ending}(h:qU o zv w e w'):Below w.heap.size w w'/\∃r1 r2,e= .returned (.tuple #[r1,r2])/\qU o zv w (.returned (.tuple #[r1,r2])) w':=by
 cases o with
 | err c=>obtain⟨h1,h2,rfl⟩:=h;exact⟨h2,_,_,rfl,h1,h2,rfl⟩
 | same=>obtain⟨h1,rfl⟩:=h;exact⟨h1,_,_,rfl,h1,rfl⟩
 | make ap l=>exact jZ.two h
attribute [local go_sem] Jm
def UO:Value->Nat
 | .slice _ n _=>n
 | _=>0
structure ZW (w:World)(bn:Nat)(Z:tr.Zn)(x:Rec)(tl:List Rec)(wr:World)(now:Rec)(goes:Bool)(hv:Value)(L:List Rec)(lv:Value)(t:List Rec):Prop where
 below:Below w.heap.size w wr
 own:wr.ownsRow w.heap.size 80 5 hv L.length (qw L)
 far:∀b,hv.ownBlock=some b->b≠bn
 box:jF wr bn now
 len:L.length+t.length<=2000+tl.length
 wf:∀r∈L,r.owner.size<=1099511627776
 nwf:now.owner.size<=1099511627776
 twf:∀r∈t,r.owner.size<=1099511627776
 rows:ql w lv t
 run:tr.jc x (now,goes,L) t=tr.jc x (tr.qZ Z,false,tr.q9 Z.l) tl
section
variable {w wr w':World}{bn:Nat}{Z:tr.Zn}{x now:Rec}{tl L t:List Rec}{hv lv:Value}{goes:Bool}
theorem ZW.on (h:ZW w bn Z x tl wr now goes hv L lv t)(hB:Below wr.heap.size wr w'):ZW w bn Z x tl w' now goes hv L lv t:=
 ⟨h.below.trans (hB.mono h.below.size),ownsRow_below h.own hB,h.far,h.box.below hB,h.len,h.wf,h.nwf,h.twf,h.rows,h.run⟩
theorem ZW.turn {y:Rec}{t':List Rec}(h:ZW w bn Z x tl wr now goes hv L lv (y :: t')){goes':Bool}{lv':Value}(hr:ql w lv' t')(hrun:tr.jc x (now,goes',L) t'=tr.jc x (tr.qZ Z,false,tr.q9 Z.l) tl):ZW w bn Z x tl wr now goes' hv L lv' t':=
 ⟨h.below,h.own,h.far,h.box,by have:=h.len;simp only[Ha]at this;omega,h.wf,h.nwf,λr hr=>h.twf r (List.mem_cons_of_mem _ hr),hr,hrun⟩
theorem ZW.next {y:Rec}{t':List Rec}(h:ZW w bn Z x tl wr now goes hv L lv (y :: t'))(h6:w.heap.size<=bn){lv':Value}(hr:ql w lv' t')(hrun:tr.jc x (y,false,L) t'=tr.jc x (tr.qZ Z,false,tr.q9 Z.l) tl):
 ZW w bn Z x tl (((((wr.setCell ⟨bn,0,none⟩ (.string y.owner)).setCell ⟨bn,1,none⟩ (.int .i64 y.typ)).setCell ⟨bn,2,none⟩ (.int .i64 y.cls)).setCell ⟨bn,3,none⟩ (.int .i64 y.ttl)).setCell ⟨bn,4,none⟩ (.string y.data)) y false hv L lv' t':=by
 have hs:=h.box.stored y;exact⟨h.below.grown hs.2 h.below.size (λj hj=>by simp only[gM]at hj;omega),qm h.own (λc hc=>hs.2.block c (h.own.lt c hc).2 (by simp only[ne_eq,gM];exact h.far c hc)),h.far,hs.1,by have:=h.len;simp only[Ha]at this;omega,h.wf,h.twf y (List.mem_cons_self ..),λr hr=>h.twf r (List.mem_cons_of_mem _ hr),hr,hrun⟩
theorem ZW.held {y:Rec}{t':List Rec}(h:ZW w bn Z x tl wr now goes hv L lv (y :: t'))(hB:Below wr.heap.size wr w'){hv':Value}{L':List Rec}(hn:∀b,hv'.ownBlock=some b->wr.heap.size<=b)(ho:w'.ownsRow w.heap.size 80 5 hv' L'.length (qw L'))
 (hl:L'.length<=L.length+1) (hwf:∀r∈L',r.owner.size<=1099511627776) {lv':Value} (hr:ql w lv' t') (hrun:tr.jc x (now,goes,L') t'=tr.jc x (tr.qZ Z,false,tr.q9 Z.l) tl):ZW w bn Z x tl w' now goes hv' L' lv' t':=by
 have hlt:=zm h.box;exact⟨h.below.trans (hB.mono h.below.size),ho,λb hb e=>by have:=hn b hb;omega,h.box.below hB,by have:=h.len;simp only[Ha]at this;omega,hwf,h.nwf,λr hr=>h.twf r (List.mem_cons_of_mem _ hr),hr,hrun⟩
end
theorem Yn {w:World}{b off m cap:Nat}{y:Rec}{t:List Rec}(h:ql w (.slice (some ⟨b,off,none⟩) m cap) (y :: t)):ql w (.slice (some ⟨b,off+5,none⟩) (m-1) (cap-1)) t:=by
 have h1:=ZF h (k:=1) (by simp)
 simpa using h1
theorem vz (w:World)(a:Option Addr)(c:Nat):ql w (.slice a 0 c) []:=⟨a,c,rfl,gU _,λ_ hk=>absurd hk (Nat.not_lt_zero _)⟩
end Go.Proofs.YtpcmilhjpmlbpaaGreatDoor
