import Derived.Test.YtpcmilhjpmlbpaaGreatDoorQCpT
import Derived.Deep.RegionWith
import Derived.Deep.CutBlock
import Derived.Deep.Upon
set_option maxRecDepth 100000
set_option maxHeartbeats 8000000
namespace Go.Proofs.YtpcmilhjpmlbpaaGreatDoor
open Go.RowKit Go.Shelf nm od
theorem nil_recs7 (w:World):qm w qX []:=⟨none,0,rfl,Nat.le_refl _,fun _ hk=>absurd hk (Nat.not_lt_zero _)⟩
theorem qns_one7 {w:World}{g:Nat}{q:Qn}(h:QnAt w g 0 q)(hg:g<w.heap.size):yu w (.slice (some ⟨g,0,none⟩) 1 1) [q]:=
 ⟨_,1,rfl,Nat.le_refl _,fun k hk=>by
  have hk0:k=0:=by simpa using hk
  subst hk0;exact⟨_,0,rfl,hg,h⟩⟩
theorem recs_one7 {w:World}{g:Nat}{r:Rec}(h:Qs w g 0 r)(hg:g<w.heap.size):qm w (.slice (some ⟨g,0,none⟩) 1 1) [r]:=
 ⟨_,1,rfl,Nat.le_refl _,fun k hk=>by
  have hk0:k=0:=by simpa using hk
  subst hk0;exact⟨_,0,rfl,hg,h⟩⟩
theorem ask_nil (qg:ByteArray)(id:Int)(w:World):
 Calls Tryz.prog 17 #[.pointer none,.string qg,.int .i64 id] w fun e w'=>xG (tr.YJ qg id) qg 252 id [] w e w':=by
 obtain⟨w1,hw1⟩:∃X,X=w.alloc (.cells (yG hd0 qX qX qX qX).toArray 33):=⟨_,rfl⟩;obtain⟨hB1,hs1,hm1⟩:=zC hw1;obtain⟨bm,hbm⟩:∃b,b=w.heap.size:=⟨_,rfl⟩;rw[← hbm]at hm1;have HBM:=qe hbm;have HBML:=qe (show bm<w1.heap.size by omega);obtain⟨w2,hw2⟩:∃X,X=w1.alloc (.cells (yG (hdI id) qX qX qX qX).toArray 33):=⟨_,rfl⟩;obtain⟨hB2,hs2,hm2⟩:=zC hw2;obtain⟨b8,hb8⟩:∃b,b=w1.heap.size:=⟨_,rfl⟩;rw[← hb8]at hm2;have HM:=qe (hm1.below hB2);have HM8:=qe hm2;have HW1:=qe hw1;have HW2:=qe hw2;have HB8:=qe hb8;have HB1:=qe (hB1.trans (hB2.mono hB1.size));have HBL8:=qe (show b8<w2.heap.size by omega);have HNE:=qe (show bm≠b8 by have:=HBML.out;omega);have HBG:=qe (show w.heap.size≤b8 by have:=hB1.size;omega);clear hw1 hw2 hB1 hB2 hs1 hs2 hm1 hm2 hb8 hbm;obtain⟨cb,hcb⟩:∃b,b=qo qg:=⟨_,rfl⟩;have HC:=qe (zt qg w2);rw[← hcb]at HC;have HCB:=qe hcb;clear hcb
 go_enter Tryz.func17,Tryz.ntmps17
 go_upto_region 1 with fail;rw[← HW1.out,← HBM.out];go_upto_region 4 with fail;rw[← HW2.out,← HB8.out];go_wp2_with fail;refine HC.out.mono ?_;rintro e w3 ⟨rfl,hB3⟩;have HB3:=qe hB3;clear hB3
 cases cb
 ·have HK:=qe (show tr.YJ qg id=1 by unfold tr.YJ;rw[if_pos HCB.out.symm]);rw[Yf];have hmW:=HM.out.below HB3.out;obtain⟨y0,y1,y2,y3,y4,y5,y6,y7,y8,y9,y10,y11,y12,y13⟩:=qy.facts hmW;have f0:=qy.free hmW 0;have f1:=qy.free hmW 1;have f2:=qy.free hmW 2;have f3:=qy.free hmW 3;have f4:=qy.free hmW 4;have f5:=qy.free hmW 5;have f6:=qy.free hmW 6;have f7:=qy.free hmW 7;have f8:=qy.free hmW 8;have f9:=qy.free hmW 9;have f10:=qy.free hmW 10;have f11:=qy.free hmW 11;have f12:=qy.free hmW 12;have f13:=qy.free hmW 13;have hst:=jS hmW hd0 qX qX qX qX;have HST:=qe hst.1;have kQ:=qe (show xG (tr.YJ qg id) qg 252 id [] w (.returned (.tuple #[yZ hd0 qX qX qX qX,.int .i64 1])) _ from .inl ⟨by rw[HK.out];decide,by rw[HK.out],(HB1.out.trans (HB3.out.mono HB1.out.size)).grown hst.2 (HB1.out.trans (HB3.out.mono HB1.out.size)).size (fun j hj=>by simp only[Option.some.injEq]at hj;rw[← hj,HBM.out];exact Nat.le_refl _)⟩);clear hmW hst;go_wp2_with fail;exact Q4 (y:=.int .i64 1) rfl rfl rfl rfl HST.out kQ.out
 ·rw[vK];by_cases h1:id<0
  ·have HK:=qe (show tr.YJ qg id=23 by unfold tr.YJ tr.idI;rw[if_neg (by rw[← HCB.out];simp),if_pos (.inl h1)]);have d1:decide (id<0)=true:=decide_eq_true h1;have hmW:=HM.out.below HB3.out;obtain⟨y0,y1,y2,y3,y4,y5,y6,y7,y8,y9,y10,y11,y12,y13⟩:=qy.facts hmW;have f0:=qy.free hmW 0;have f1:=qy.free hmW 1;have f2:=qy.free hmW 2;have f3:=qy.free hmW 3;have f4:=qy.free hmW 4;have f5:=qy.free hmW 5;have f6:=qy.free hmW 6;have f7:=qy.free hmW 7;have f8:=qy.free hmW 8;have f9:=qy.free hmW 9;have f10:=qy.free hmW 10;have f11:=qy.free hmW 11;have f12:=qy.free hmW 12;have f13:=qy.free hmW 13;have hst:=jS hmW hd0 qX qX qX qX;have HST:=qe hst.1;have kQ:=qe (show xG (tr.YJ qg id) qg 252 id [] w (.returned (.tuple #[yZ hd0 qX qX qX qX,.int .i64 23])) _ from .inl ⟨by rw[HK.out];decide,by rw[HK.out],(HB1.out.trans (HB3.out.mono HB1.out.size)).grown hst.2 (HB1.out.trans (HB3.out.mono HB1.out.size)).size (fun j hj=>by simp only[Option.some.injEq]at hj;rw[← hj,HBM.out];exact Nat.le_refl _)⟩);clear hmW hst;go_wp2_with fail;exact Q4 (y:=.int .i64 23) rfl rfl rfl rfl HST.out kQ.out
  ·have d1:decide (id<0)=false:=decide_eq_false h1;by_cases h2:65535<id
   ·have HK:=qe (show tr.YJ qg id=23 by unfold tr.YJ tr.idI;rw[if_neg (by rw[← HCB.out];simp),if_pos (.inr h2)]);have d2:decide (65535<id)=true:=decide_eq_true h2;have hmW:=HM.out.below HB3.out;obtain⟨y0,y1,y2,y3,y4,y5,y6,y7,y8,y9,y10,y11,y12,y13⟩:=qy.facts hmW;have f0:=qy.free hmW 0;have f1:=qy.free hmW 1;have f2:=qy.free hmW 2;have f3:=qy.free hmW 3;have f4:=qy.free hmW 4;have f5:=qy.free hmW 5;have f6:=qy.free hmW 6;have f7:=qy.free hmW 7;have f8:=qy.free hmW 8;have f9:=qy.free hmW 9;have f10:=qy.free hmW 10;have f11:=qy.free hmW 11;have f12:=qy.free hmW 12;have f13:=qy.free hmW 13;have hst:=jS hmW hd0 qX qX qX qX;have HST:=qe hst.1;have kQ:=qe (show xG (tr.YJ qg id) qg 252 id [] w (.returned (.tuple #[yZ hd0 qX qX qX qX,.int .i64 23])) _ from .inl ⟨by rw[HK.out];decide,by rw[HK.out],(HB1.out.trans (HB3.out.mono HB1.out.size)).grown hst.2 (HB1.out.trans (HB3.out.mono HB1.out.size)).size (fun j hj=>by simp only[Option.some.injEq]at hj;rw[← hj,HBM.out];exact Nat.le_refl _)⟩);clear hmW hst;go_wp2_with fail;exact Q4 (y:=.int .i64 23) rfl rfl rfl rfl HST.out kQ.out
   ·have HK:=qe (show tr.YJ qg id=0 by unfold tr.YJ tr.idI;rw[if_neg (by rw[← HCB.out];simp),if_neg (by omega)]);have d2:decide (65535<id)=false:=decide_eq_false h2;clear h1 h2;obtain⟨w4,hw4⟩:∃X,X=w3.alloc (.cells #[.string qg,.int .i64 252,.int .i64 1] 78):=⟨_,rfl⟩;obtain⟨hB4,hs4,hx4⟩:=Vh w3 w4 ⟨qg,252,1⟩ hw4;obtain⟨g4,hg4⟩:∃b,b=w3.heap.size:=⟨_,rfl⟩;rw[← hg4]at hx4;have hm8:=HM8.out.below (HB3.out.trans (hB4.mono HB3.out.size));have hm1:=HM.out.below (HB3.out.trans (hB4.mono HB3.out.size));obtain⟨w5,hw5⟩:∃X,X=w4.setCell ⟨b8,10,none⟩ (.slice (some ⟨g4,0,none⟩) 1 1):=⟨_,rfl⟩;have hg8:g4≠b8:=by have h1:=HBL8.out;have h2:=Below.size HB3.out;omega
    have hgm:g4≠bm:=by have h0:=HBL8.out;have h1:=HBML.out;have h2:=Below.size HB3.out;have h3:=HB8.out;omega
    have H58:=qe (show qy w5 b8 (hdI id) (.slice (some ⟨g4,0,none⟩) 1 1) qX qX qX by rw[hw5];exact hm8.set10 _);have H51:=qe (show qy w5 bm hd0 qX qX qX qX by rw[hw5];exact(Below.heap_setCell _ _ _ _ HNE.out).trans hm1);have H5Q:=qe (show QnAt w5 g4 0 ⟨qg,252,1⟩ by rw[hw5];exact hx4.keep (Below.heap_setCell _ _ _ _ hg8));have H5B:=qe (show Below w.heap.size w w5 by rw[hw5];exact((HB1.out.trans (HB3.out.mono HB1.out.size)).trans (hB4.mono (HB1.out.trans (HB3.out.mono HB1.out.size)).size)).setCell (p:=⟨b8,10,none⟩) HBG.out _);have H5L:=qe (show g4<w5.heap.size by rw[hw5];simp;omega);have HGM:=qe hgm;have HG8:=qe hg8;have y10:=(qy.facts hm8).2.2.2.2.2.2.2.2.2.2.1;have f10:=qy.free hm8 10;rw[hw4]at y10 f10;have HW5:=qe hw5;have HW4:=qe hw4;have HG4:=qe hg4;clear hw4 hB4 hs4 hx4 hg4 hm8 hm1 hw5 hg8 hgm;go_upto_region 10 with fail;rw[← HW4.out,← HG4.out,← HW5.out];clear y10 f10 d1 d2;obtain⟨y0,y1,y2,y3,y4,y5,y6,y7,y8,y9,y10,y11,y12,y13⟩:=qy.facts H51.out;have f0:=qy.free H51.out 0;have f1:=qy.free H51.out 1;have f2:=qy.free H51.out 2;have f3:=qy.free H51.out 3;have f4:=qy.free H51.out 4;have f5:=qy.free H51.out 5;have f6:=qy.free H51.out 6;have f7:=qy.free H51.out 7;have f8:=qy.free H51.out 8;have f9:=qy.free H51.out 9;have f10:=qy.free H51.out 10;have f11:=qy.free H51.out 11;have f12:=qy.free H51.out 12;have f13:=qy.free H51.out 13;obtain⟨x0,x1,x2,x3,x4,x5,x6,x7,x8,x9,x10,x11,x12,x13⟩:=qy.facts H58.out;have hst:=jS H51.out (hdI id) (.slice (some ⟨g4,0,none⟩) 1 1) qX qX qX;have hq:=qns_one7 (H5Q.out.keep (hst.2.block g4 H5L.out (by simp only[ne_eq,Option.some.injEq];exact fun e=>HGM.out e))) (Nat.lt_of_lt_of_le H5L.out hst.2.size);have kQ:=qe (show xG (tr.YJ qg id) qg 252 id [] w (.returned (.tuple #[yZ (hdI id) (.slice (some ⟨g4,0,none⟩) 1 1) qX qX qX,.int .i64 0])) _ from
     .inr ⟨HK.out,_,_,rfl,H5B.out.grown hst.2 H5B.out.size (fun j hj=>by simp only[Option.some.injEq]at hj;rw[← hj,HBM.out];exact Nat.le_refl _),hq,nil_recs7 _,.inl rfl⟩)
    have HST:=qe hst.1;clear hst hq;go_wp2_with fail;exact Q4 (y:=.int .i64 0) rfl rfl rfl rfl HST.out kQ.out
theorem ask_zone (tz z:Nat)(Z:tr.Zn)(hv:tr.Ok Z)(qg:ByteArray)(id:Int)(w:World)(hz:jA w tz z Z.ap Z.l):
 Calls Tryz.prog 17 #[qW z,.string qg,.int .i64 id] w fun e w'=>xG (tr.idI id) Z.ap 251 id [tr.ze Z] w e w':=by
 obtain⟨w1,hw1⟩:∃X,X=w.alloc (.cells (yG hd0 qX qX qX qX).toArray 33):=⟨_,rfl⟩;obtain⟨hB1,hs1,hm1⟩:=zC hw1;obtain⟨bm,hbm⟩:∃b,b=w.heap.size:=⟨_,rfl⟩;rw[← hbm]at hm1;have HBM:=qe hbm;have HBML:=qe (show bm<w1.heap.size by omega);obtain⟨w2,hw2⟩:∃X,X=w1.alloc (.cells (yG (hdI id) qX qX qX qX).toArray 33):=⟨_,rfl⟩;obtain⟨hB2,hs2,hm2⟩:=zC hw2;obtain⟨b8,hb8⟩:∃b,b=w1.heap.size:=⟨_,rfl⟩;rw[← hb8]at hm2;have HM:=qe (hm1.below hB2);have HM8:=qe hm2;have HW1:=qe hw1;have HW2:=qe hw2;have HB8:=qe hb8;have HB1:=qe (hB1.trans (hB2.mono hB1.size));have HBL8:=qe (show b8<w2.heap.size by omega);have HNE:=qe (show bm≠b8 by have:=HBML.out;omega);have HBG:=qe (show w.heap.size≤b8 by have:=hB1.size;omega);clear hw1 hw2 hB1 hB2 hs1 hs2 hm1 hm2 hb8 hbm;obtain⟨r,hr⟩:∃r,r=tr.ze Z:=⟨_,rfl⟩;rw[← hr];have HAPX:=qe (show Calls Tryz.prog 24 #[qW z] w2 fun e w'=>e= .returned (.string Z.ap)∧Below w2.heap.size w2 w' by
  obtain⟨_,_,_,_,_,_,_,h2,_⟩:=(hz.kept HB1.out).v.parts;refine(xw z Z.ap _ _ _ w2 h2).mono ?_;rintro e w' ⟨rfl,rfl⟩;exact⟨rfl,Below.refl _ _⟩)
 have HSO:=qe (show ∀X,Below w.heap.size w X→Calls Tryz.prog 48 #[qW z] X fun e w'=>e= .returned (ym r)∧Below X.heap.size X w' from fun X hX=>by rw[hr];exact YC tz z Z hv X (hz.kept hX));clear hv hz hr
 go_enter Tryz.func17,Tryz.ntmps17
 go_upto_region 1 with fail;rw[← HW1.out,← HBM.out];go_upto_region 4 with fail;rw[← HW2.out,← HB8.out];have HRF:=qe (Below.refl w2.heap.size w2);by_cases h1:id<0
 ·have HK:=qe (show tr.idI id=23 by unfold tr.idI;rw[if_pos (.inl h1)]);have d1:decide (id<0)=true:=decide_eq_true h1;have hmW:=HM.out.below HRF.out;obtain⟨y0,y1,y2,y3,y4,y5,y6,y7,y8,y9,y10,y11,y12,y13⟩:=qy.facts hmW;have f0:=qy.free hmW 0;have f1:=qy.free hmW 1;have f2:=qy.free hmW 2;have f3:=qy.free hmW 3;have f4:=qy.free hmW 4;have f5:=qy.free hmW 5;have f6:=qy.free hmW 6;have f7:=qy.free hmW 7;have f8:=qy.free hmW 8;have f9:=qy.free hmW 9;have f10:=qy.free hmW 10;have f11:=qy.free hmW 11;have f12:=qy.free hmW 12;have f13:=qy.free hmW 13;have hst:=jS hmW hd0 qX qX qX qX;have HST:=qe hst.1;have kQ:=qe (show xG (tr.idI id) Z.ap 251 id [r] w (.returned (.tuple #[yZ hd0 qX qX qX qX,.int .i64 23])) _ from .inl ⟨by rw[HK.out];decide,by rw[HK.out],(HB1.out.trans (HRF.out.mono HB1.out.size)).grown hst.2 (HB1.out.trans (HRF.out.mono HB1.out.size)).size (fun j hj=>by simp only[Option.some.injEq]at hj;rw[← hj,HBM.out];exact Nat.le_refl _)⟩);clear hmW hst;go_wp2_with fail;exact Q4 (y:=.int .i64 23) rfl rfl rfl rfl HST.out kQ.out
 ·have d1:decide (id<0)=false:=decide_eq_false h1;by_cases h2:65535<id
  ·have HK:=qe (show tr.idI id=23 by unfold tr.idI;rw[if_pos (.inr h2)]);have d2:decide (65535<id)=true:=decide_eq_true h2;have hmW:=HM.out.below HRF.out;obtain⟨y0,y1,y2,y3,y4,y5,y6,y7,y8,y9,y10,y11,y12,y13⟩:=qy.facts hmW;have f0:=qy.free hmW 0;have f1:=qy.free hmW 1;have f2:=qy.free hmW 2;have f3:=qy.free hmW 3;have f4:=qy.free hmW 4;have f5:=qy.free hmW 5;have f6:=qy.free hmW 6;have f7:=qy.free hmW 7;have f8:=qy.free hmW 8;have f9:=qy.free hmW 9;have f10:=qy.free hmW 10;have f11:=qy.free hmW 11;have f12:=qy.free hmW 12;have f13:=qy.free hmW 13;have hst:=jS hmW hd0 qX qX qX qX;have HST:=qe hst.1;have kQ:=qe (show xG (tr.idI id) Z.ap 251 id [r] w (.returned (.tuple #[yZ hd0 qX qX qX qX,.int .i64 23])) _ from .inl ⟨by rw[HK.out];decide,by rw[HK.out],(HB1.out.trans (HRF.out.mono HB1.out.size)).grown hst.2 (HB1.out.trans (HRF.out.mono HB1.out.size)).size (fun j hj=>by simp only[Option.some.injEq]at hj;rw[← hj,HBM.out];exact Nat.le_refl _)⟩);clear hmW hst;go_wp2_with fail;exact Q4 (y:=.int .i64 23) rfl rfl rfl rfl HST.out kQ.out
  ·have HK:=qe (show tr.idI id=0 by unfold tr.idI;rw[if_neg (by omega)]);have d2:decide (65535<id)=false:=decide_eq_false h2;clear h1 h2;go_wp2_with fail;refine HAPX.out.mono ?_;rintro e w3 ⟨rfl,hB3⟩;have HB3:=qe hB3;clear hB3 d1 d2;obtain⟨w4,hw4⟩:∃X,X=w3.alloc (.cells #[.string Z.ap,.int .i64 251,.int .i64 1] 78):=⟨_,rfl⟩;obtain⟨hB4,hs4,hx4⟩:=Vh w3 w4 ⟨Z.ap,251,1⟩ hw4;obtain⟨g4,hg4⟩:∃b,b=w3.heap.size:=⟨_,rfl⟩;rw[← hg4]at hx4;have hm8:=HM8.out.below (HB3.out.trans (hB4.mono HB3.out.size));have hm1:=HM.out.below (HB3.out.trans (hB4.mono HB3.out.size));obtain⟨w5,hw5⟩:∃X,X=w4.setCell ⟨b8,10,none⟩ (.slice (some ⟨g4,0,none⟩) 1 1):=⟨_,rfl⟩;have hg8:g4≠b8:=by have h1:=HBL8.out;have h2:=Below.size HB3.out;omega
   have hgm:g4≠bm:=by have h0:=HBL8.out;have h1:=HBML.out;have h2:=Below.size HB3.out;have h3:=HB8.out;omega
   have H58:=qe (show qy w5 b8 (hdI id) (.slice (some ⟨g4,0,none⟩) 1 1) qX qX qX by rw[hw5];exact hm8.set10 _);have H51:=qe (show qy w5 bm hd0 qX qX qX qX by rw[hw5];exact(Below.heap_setCell _ _ _ _ HNE.out).trans hm1);have H5Q:=qe (show QnAt w5 g4 0 ⟨Z.ap,251,1⟩ by rw[hw5];exact hx4.keep (Below.heap_setCell _ _ _ _ hg8));have H5B:=qe (show Below w.heap.size w w5 by rw[hw5];exact((HB1.out.trans (HB3.out.mono HB1.out.size)).trans (hB4.mono (HB1.out.trans (HB3.out.mono HB1.out.size)).size)).setCell (p:=⟨b8,10,none⟩) HBG.out _);have H5L:=qe (show g4<w5.heap.size by rw[hw5];simp;omega);have HGM:=qe hgm;have HG8:=qe hg8;have y10:=(qy.facts hm8).2.2.2.2.2.2.2.2.2.2.1;have f10:=qy.free hm8 10;rw[hw4]at y10 f10;have HW5:=qe hw5;have HW4:=qe hw4;have HG4:=qe hg4;clear hw4 hB4 hs4 hx4 hg4 hm8 hm1 hw5 hg8 hgm;go_upto_region 3 with fail;rw[← HW4.out,← HG4.out,← HW5.out];clear y10 f10;go_wp2_with fail;refine(HSO.out w5 H5B.out).mono ?_;rintro e w6 ⟨rfl,hB6⟩;obtain⟨w7,hw7⟩:∃X,X=w6.alloc (.cells (recC r).toArray 80):=⟨_,rfl⟩;obtain⟨hB7,hs7,hx7⟩:=qY w6 w7 r hw7;obtain⟨g7,hg7⟩:∃b,b=w6.heap.size:=⟨_,rfl⟩;rw[← hg7]at hx7;have hB57:=hB6.trans (hB7.mono hB6.size);have hm8:=H58.out.below hB57;have hm1:=H51.out.below hB57;obtain⟨w8,hw8⟩:∃X,X=w7.setCell ⟨b8,12,none⟩ (.slice (some ⟨g7,0,none⟩) 1 1):=⟨_,rfl⟩;have hl8:b8<w5.heap.size:=H58.out.lt;have hlm:bm<w5.heap.size:=H51.out.lt;have h56:=hB6.size;have hn8:g7≠b8:=by omega
   have hnm:g7≠bm:=by omega
   have H88:=qe (show qy w8 b8 (hdI id) (.slice (some ⟨g4,0,none⟩) 1 1) qX (.slice (some ⟨g7,0,none⟩) 1 1) qX by rw[hw8];exact hm8.set12 _);have H81:=qe (show qy w8 bm hd0 qX qX qX qX by rw[hw8];exact(Below.heap_setCell _ _ _ _ HNE.out).trans hm1);have H8Q:=qe (show QnAt w8 g4 0 ⟨Z.ap,251,1⟩ by rw[hw8];exact(H5Q.out.keep (hB57.block g4 H5L.out)).keep (Below.heap_setCell _ _ _ _ HG8.out));have H8R:=qe (show Qs w8 g7 0 r by rw[hw8];exact hx7.keep (Below.heap_setCell _ _ _ _ hn8));have H8B:=qe (show Below w.heap.size w w8 by rw[hw8];exact(H5B.out.trans (hB57.mono H5B.out.size)).setCell (p:=⟨b8,12,none⟩) HBG.out _);have H8L:=qe (show g4<w8.heap.size by rw[hw8];have h1:=H5L.out;have h2:=hB57.size;simp;omega);have H8M:=qe (show g7<w8.heap.size by rw[hw8];simp;omega);have HG7:=qe hg7;have HW7:=qe hw7;have HW8:=qe hw8;have HNM:=qe hnm;have y12:=(qy.facts hm8).2.2.2.2.2.2.2.2.2.2.2.2.1;have f12:=qy.free hm8 12;rw[hw7]at y12 f12;clear hB6 hw7 hB7 hs7 hx7 hg7 hB57 hm8 hm1 hw8 hl8 hlm h56 hn8 hnm;go_upto_region 10 with fail;rw[← HW7.out,← HG7.out,← HW8.out];clear y12 f12;obtain⟨y0,y1,y2,y3,y4,y5,y6,y7,y8,y9,y10,y11,y12,y13⟩:=qy.facts H81.out;have f0:=qy.free H81.out 0;have f1:=qy.free H81.out 1;have f2:=qy.free H81.out 2;have f3:=qy.free H81.out 3;have f4:=qy.free H81.out 4;have f5:=qy.free H81.out 5;have f6:=qy.free H81.out 6;have f7:=qy.free H81.out 7;have f8:=qy.free H81.out 8;have f9:=qy.free H81.out 9;have f10:=qy.free H81.out 10;have f11:=qy.free H81.out 11;have f12:=qy.free H81.out 12;have f13:=qy.free H81.out 13;obtain⟨x0,x1,x2,x3,x4,x5,x6,x7,x8,x9,x10,x11,x12,x13⟩:=qy.facts H88.out;have hst:=jS H81.out (hdI id) (.slice (some ⟨g4,0,none⟩) 1 1) qX (.slice (some ⟨g7,0,none⟩) 1 1) qX;have hq:=qns_one7 (H8Q.out.keep (hst.2.block g4 H8L.out (by simp only[ne_eq,Option.some.injEq];exact fun e=>HGM.out e))) (Nat.lt_of_lt_of_le H8L.out hst.2.size);have hu:=recs_one7 (H8R.out.keep (hst.2.block g7 H8M.out (by simp only[ne_eq,Option.some.injEq];exact fun e=>HNM.out e))) (Nat.lt_of_lt_of_le H8M.out hst.2.size);have kQ:=qe (show xG (tr.idI id) Z.ap 251 id [r] w (.returned (.tuple #[yZ (hdI id) (.slice (some ⟨g4,0,none⟩) 1 1) qX (.slice (some ⟨g7,0,none⟩) 1 1) qX,.int .i64 0])) _ from
    .inr ⟨HK.out,_,_,rfl,H8B.out.grown hst.2 H8B.out.size (fun j hj=>by simp only[Option.some.injEq]at hj;rw[← hj,HBM.out];exact Nat.le_refl _),hq,hu,.inr ⟨_,_,_,_,rfl⟩⟩)
   have HST:=qe hst.1;clear hst hq hu;go_wp2_with fail;exact Q4 (y:=.int .i64 0) rfl rfl rfl rfl HST.out kQ.out
namespace tr
def xL (q:Msg)(n:ByteArray)(t:Int)(au:List Rec):Bool:=decide (q.h=hdI q.h.id) && decide (q.qs= [⟨n,t,1⟩]) && decide (q.au=au) && decide (q.an.length+q.ad.length=0)
theorem asked_many {Z:Option Zn}{q:Msg}(h:q.qs.length≠1):zP Z q=false:=by
 unfold zP
 match e:q.qs with
 | []=>rfl
 | [n]=>rw[e]at h;simp at h
 | _ :: _ :: _=>rfl
theorem ask_code {id:Int}:idI id=0↔0≤id∧id≤65535:=by
 unfold idI
 split <;> omega
theorem asked_all {Z:Option Zn}{q:Msg}{n:Qn}(h:q.qs= [n])(h2:n.typ=252):zP Z q=(decide (YJ n.name q.h.id=0) && xL q n.name 252 []):=by
 obtain⟨nm,ty,cl⟩:=n;simp only at h2;subst h2;unfold zP xL;rw[h];simp only[List.cons.injEq,Qn.mk.injEq,and_true,true_and,if_true];have e1:YJ nm q.h.id=0↔qo nm=true∧(0≤q.h.id∧q.h.id≤65535):=by
  unfold YJ
  cases hc:qo nm
  ·simp
  ·simp[ask_code]
 have e2:(q.au= [])↔q.au.length=0:=List.length_eq_zero_iff.symm;rw[Bool.eq_iff_iff];simp only[Bool.and_eq_true,decide_eq_true_eq,e1,e2];constructor
 ·rintro⟨⟨⟨⟨⟨a,b⟩,c⟩,d⟩,e⟩,f,g⟩;exact⟨⟨f,e⟩,⟨⟨a,b⟩,g⟩,by omega⟩
 ·rintro⟨⟨f,e⟩,⟨⟨a,b⟩,g⟩,k⟩;exact⟨⟨⟨⟨⟨a,b⟩,by omega⟩,by omega⟩,e⟩,f,g⟩
theorem asked_none {q:Msg}{n:Qn}(h:q.qs= [n])(h2:n.typ≠252):zP none q=false:=by
 unfold zP;rw[h];simp[h2]
theorem asked_some {A:Zn}{q:Msg}{n:Qn}(h:q.qs= [n])(h2:n.typ≠252):zP (some A) q=(decide (idI q.h.id=0) && xL q A.ap 251 [ze A]):=by
 obtain⟨nm,ty,cl⟩:=n;unfold zP xL;rw[h];simp only at h2;simp only[List.cons.injEq,Qn.mk.injEq,and_true,if_neg h2];rw[Bool.eq_iff_iff];simp only[Bool.and_eq_true,decide_eq_true_eq,ask_code];constructor
 ·rintro⟨⟨⟨⟨⟨a,b⟩,c⟩,d⟩,e⟩,f,g,k⟩;exact⟨e,⟨⟨a,g,f,b⟩,k⟩,by omega⟩
 ·rintro⟨e,⟨⟨a,g,f,b⟩,k⟩,l⟩;exact⟨⟨⟨⟨⟨a,b⟩,by omega⟩,by omega⟩,e⟩,f,g,k⟩
end tr
theorem msg_text {w:World}{b:Nat}{h:Hd}{qa aa ua da:Option Addr}{qn an un dn qc ac uc dc:Nat}(hm:qy w b h (.slice qa qn qc) (.slice aa an ac) (.slice ua un uc) (.slice da dn dc)){i:Nat}{s:ByteArray}:w.cell? ⟨b,i,none⟩≠some (.string s):=by
 unfold qy at hm;rw[qh hm];intro e;have:i<14:=by
  have:=(Array.getElem?_eq_some_iff.1 e).1
  simpa using this
 have h14:i=0∨i=1∨i=2∨i=3∨i=4∨i=5∨i=6∨i=7∨i=8∨i=9∨i=10∨i=11∨i=12∨i=13:=by omega
 rcases h14 with rfl | rfl | rfl | rfl | rfl | rfl | rfl | rfl | rfl | rfl | rfl | rfl | rfl | rfl <;> (simp at e)
theorem qns_off {w w':World}{b:Nat}{h:Hd}{qa aa ua da:Option Addr}{qn an un dn qc ac uc dc:Nat}{v:Value}{l:List Qn}(hr:yu w v l)(hm:qy w b h (.slice qa qn qc) (.slice aa an ac) (.slice ua un uc) (.slice da dn dc))(hg:w.grownBy w' (some b)):yu w' v l:=by
 obtain⟨a,cap,rfl,hc,hx⟩:=hr;refine⟨a,cap,rfl,hc,fun k hk=>?_⟩;obtain⟨b',off,e,hb,hq⟩:=hx k hk;have hne:b'≠b:=fun e=>by subst e;exact msg_text hm hq.1
 exact⟨b',off,e,Nat.lt_of_lt_of_le hb hg.size,hq.keep (hg.block b' hb (by simp only[ne_eq,Option.some.injEq];exact hne))⟩
theorem recs_offM {w w':World}{b:Nat}{h:Hd}{qa aa ua da:Option Addr}{qn an un dn qc ac uc dc:Nat}{v:Value}{l:List Rec}(hr:qm w v l)(hm:qy w b h (.slice qa qn qc) (.slice aa an ac) (.slice ua un uc) (.slice da dn dc))(hg:w.grownBy w' (some b)):qm w' v l:=by
 obtain⟨a,cap,rfl,hc,hx⟩:=hr;refine⟨a,cap,rfl,hc,fun k hk=>?_⟩;obtain⟨b',off,e,hb,hq⟩:=hx k hk;have hne:b'≠b:=fun e=>by subst e;exact msg_text hm hq.1
 exact⟨b',off,e,Nat.lt_of_lt_of_le hb hg.size,hq.keep (hg.block b' hb (by simp only[ne_eq,Option.some.injEq];exact hne))⟩
def ZHas (w:World)(v:Value)(Z:Option tr.Zn):Prop:=(Z=none∧v= .pointer none)∨∃A z,Z=some A∧v=qW z∧tr.Ok A∧jA w w.heap.size z A.ap A.l
theorem jA.top {w:World}{t z:Nat}{ap:ByteArray}{l:List Rec}(h:jA w t z ap l):jA w w.heap.size z ap l:=⟨QD.new h.v.parts,h.small,h.named,h.sorted⟩
theorem ZHas.below {w w':World}{v:Value}{Z:Option tr.Zn}(h:ZHas w v Z)(hB:Below w.heap.size w w'):ZHas w' v Z:=by
 rcases h with h | ⟨A,z,h1,h2,h3,h4⟩
 ·exact .inl h
 ·exact .inr ⟨A,z,h1,h2,h3,(h4.kept hB).top⟩
theorem ask_one {c:Int}{name:ByteArray}{t i:Int}{au:List Rec}{w:World}{e:Ending}{w':World}(h:xG c name t i au w e w'):∃h0 qa qn qc ua un uc,e= .returned (.tuple #[yZ h0 (.slice qa qn qc) qX (.slice ua un uc) qX,.int .i64 c])∧Below w.heap.size w w'∧
 (c=0→h0=hdI i∧yu w' (.slice qa qn qc) [⟨name,t,1⟩]∧qm w' (.slice ua un uc) au):=by
 rcases h with⟨hc,rfl,hB⟩|⟨hc,g,u,rfl,hB,hq,hr,_⟩
 ·exact⟨hd0,none,0,0,none,0,0,rfl,hB,fun h=>absurd h hc⟩
 ·obtain⟨ua,uc,rfl,-⟩:=id hr;subst hc;exact⟨hdI i,_,_,_,_,_,_,rfl,hB,fun _=>⟨rfl,hq,hr⟩⟩
def AskW (Z:Option tr.Zn)(q:Msg)(c:Int)(b5:Nat)(w:World):Prop:=∃n t au h0 qa qn qc ua un uc,tr.zP Z q=(decide (c=0) && tr.xL q n t au)∧au.length≤1∧qy w b5 h0 (.slice qa qn qc) qX (.slice ua un uc) qX∧
 (c=0→h0=hdI q.h.id∧yu w (.slice qa qn qc) [⟨n,t,1⟩]∧qm w (.slice ua un uc) au)
theorem askW_store {Z:Option tr.Zn}{q:Msg}{c:Int}{b5:Nat}{w X:World}{h0:Hd}{qa ua:Option Addr}{qn qc un uc:Nat}{n:ByteArray}{t:Int}{au:List Rec}(hb:w.heap.size≤b5)(hB:Below w.heap.size w X)(hm:qy X b5 hd0 qX qX qX qX)(hz:tr.zP Z q=(decide (c=0) && tr.xL q n t au))(hl:au.length≤1)
 (h:c=0→h0=hdI q.h.id∧yu X (.slice qa qn qc) [⟨n,t,1⟩]∧qm X (.slice ua un uc) au):
 AskW Z q c b5 ((((((((((((((X.setCell ⟨b5,0,none⟩ (.int .i64 h0.id)).setCell ⟨b5,1,none⟩ (.bool h0.Um)).setCell ⟨b5,2,none⟩ (.int .i64 h0.op)).setCell ⟨b5,3,none⟩ (.bool h0.aa)).setCell ⟨b5,4,none⟩ (.bool h0.tc)).setCell ⟨b5,5,none⟩ (.bool h0.rd)).setCell ⟨b5,6,none⟩ (.bool h0.ra)).setCell ⟨b5,7,none⟩ (.bool h0.ad)).setCell ⟨b5,8,none⟩ (.bool h0.cd)).setCell ⟨b5,9,none⟩ (.int .i64 h0.jq)).setCell ⟨b5,10,none⟩ (.slice qa qn qc)).setCell ⟨b5,11,none⟩ qX).setCell ⟨b5,12,none⟩ (.slice ua un uc)).setCell ⟨b5,13,none⟩ qX)∧
 Below w.heap.size w ((((((((((((((X.setCell ⟨b5,0,none⟩ (.int .i64 h0.id)).setCell ⟨b5,1,none⟩ (.bool h0.Um)).setCell ⟨b5,2,none⟩ (.int .i64 h0.op)).setCell ⟨b5,3,none⟩ (.bool h0.aa)).setCell ⟨b5,4,none⟩ (.bool h0.tc)).setCell ⟨b5,5,none⟩ (.bool h0.rd)).setCell ⟨b5,6,none⟩ (.bool h0.ra)).setCell ⟨b5,7,none⟩ (.bool h0.ad)).setCell ⟨b5,8,none⟩ (.bool h0.cd)).setCell ⟨b5,9,none⟩ (.int .i64 h0.jq)).setCell ⟨b5,10,none⟩ (.slice qa qn qc)).setCell ⟨b5,11,none⟩ qX).setCell ⟨b5,12,none⟩ (.slice ua un uc)).setCell ⟨b5,13,none⟩ qX):=by
 have hst:=jS hm h0 (.slice qa qn qc) qX (.slice ua un uc) qX;refine⟨⟨n,t,au,h0,qa,qn,qc,ua,un,uc,hz,hl,hst.1,fun hc=>?_⟩,hB.grown hst.2 hB.size (fun j hj=>by simp only[Option.some.injEq]at hj;omega)⟩;obtain⟨h1,h2,h3⟩:=h hc;exact⟨h1,qns_off h2 hm hst.2,recs_offM h3 hm hst.2⟩
theorem asked_any (Z:Option tr.Zn)(zv:Value)(hi:Int)(rs:Bool)(op:Int)(b3 b4 b5 b6 b7 b8:Bool)(rc:Int)(qs:List Qn)(an au ad:List Rec)
 (hq:qs.length≤1000000000000) (ha:an.length≤1000000000000) (hu:au.length≤1000000000000) (hd:ad.length≤1000000000000)
 (q a u d:Value) (w:World) (hz:ZHas w zv Z) (rq:yu w q qs) (ra:qm w a an) (ru:qm w u au) (rd:qm w d ad):
 Calls Tryz.prog 88 #[zv,yZ ⟨hi,rs,op,b3,b4,b5,b6,b7,b8,rc⟩ q a u d] w fun e w'=>e= .returned (.bool (tr.zP Z ⟨⟨hi,rs,op,b3,b4,b5,b6,b7,b8,rc⟩,qs,an,au,ad⟩))∧Below w.heap.size w w':=by
 obtain⟨w1,hw1⟩:∃X,X=w.alloc (.cells (yG ⟨hi,rs,op,b3,b4,b5,b6,b7,b8,rc⟩ q a u d).toArray 33):=⟨_,rfl⟩;obtain⟨hB1,hs1,hm1⟩:=zC hw1;obtain⟨bm,hbm⟩:∃b,b=w.heap.size:=⟨_,rfl⟩;rw[← hbm]at hm1;obtain⟨w2,hw2⟩:∃X,X=w1.alloc (.cells (yG hd0 qX qX qX qX).toArray 33):=⟨_,rfl⟩;obtain⟨hB2,hs2,hm2⟩:=zC hw2;obtain⟨bw,hbw⟩:∃b,b=w1.heap.size:=⟨_,rfl⟩;rw[← hbw]at hm2;have HZ:=qe (hz.below (hB1.trans (hB2.mono hB1.size)));have HQ:=qe (rq.below hB1);have HU:=qe (ru.below hB1);obtain⟨qa,qc,rfl,-⟩:=id rq;obtain⟨aa,ac,rfl,-⟩:=id ra;obtain⟨ua,uc,rfl,-⟩:=id ru;obtain⟨da,dc,rfl,-⟩:=id rd;have HM:=qe hm1;have HW1:=qe hw1;have HBM:=qe hbm;have HB1:=qe hB1;have HM5:=qe hm2;have HW2:=qe hw2;have HBW:=qe hbw;have HB2:=qe hB2;have HLQ:=qe hq;have HLU:=qe hu;have HLA:=qe ha;have HLD:=qe hd;have HBWL:=qe (show w1.heap.size≤bw by omega);clear hw1 hB1 hs1 hm1 hbm hw2 hB2 hs2 hm2 hbw hz rq ra ru rd hq ha hu hd;have HRF:=qe (Below.refl w1.heap.size w1);obtain⟨m0,m1,m2,m3,m4,m5,m6,m7,m8,m9,m10,m11,m12,m13⟩:=(HM.out.below HRF.out).facts
 go_enter Tryz.func88,Tryz.ntmps88
 go_upto_region 1 with fail;rw[← HW1.out,← HBM.out];by_cases hq1:qs.length=1
 ·have e4:((qs.length:Int) != 1)=false:=by rw[bne_eq_false_iff_eq];omega
  obtain⟨_,_,hv,-,hr0⟩:=HQ.out.below HB2.out;simp only[Value.slice.injEq,true_and]at hv;obtain⟨rfl,rfl⟩:=hv;obtain⟨qb,Xj,rfl,hqb,c0,c1,c2⟩:=hr0 0 (by omega);obtain⟨q0,hq0⟩:∃q0,q0=qs[0]'(by omega):=⟨_,rfl⟩;rw[← hq0]at c0 c1 c2;simp only[Nat.zero_mul,Nat.add_zero]at c0 c1 c2;have hqs:qs= [q0]:=by
   obtain⟨y,hy⟩:=List.length_eq_one_iff.1 hq1;have:q0=y:=by rw[hq0];simp[hy]
   rw[this,hy]
  have hl0:0<qs.length:=by omega
  have HQS:=qe hqs;clear hr0 hqb hq0 hqs hq1;go_upto_region 4 with fail;rw[← HW2.out,← HBW.out];clear m0 m1 m2 m3 m4 m5 m6 m7 m8 m9 m10 m11 m12 m13;obtain⟨m0,m1,m2,m3,m4,m5,m6,m7,m8,m9,m10,m11,m12,m13⟩:=(HM.out.below HB2.out).facts
  go_upto_if 16 with fail
  go_cut [6] (fun s wx=>∃c:Int,s= .int .i64 c∧Hid (Below w1.heap.size w1 wx)∧Hid (AskW Z ⟨⟨hi,rs,op,b3,b4,b5,b6,b7,b8,rc⟩,qs,an,au,ad⟩ c bw wx))
  case first=>
   by_cases QJ:q0.typ=252
   ·have e5:(q0.typ == 252)=true:=by rw[beq_iff_eq];exact QJ
    have HK:=qe (tr.asked_all (Z:=Z) (q:=⟨⟨hi,rs,op,b3,b4,b5,b6,b7,b8,rc⟩,qs,an,au,ad⟩) HQS.out QJ);have HAN:=qe (show ∀X,Calls Tryz.prog 17 #[.pointer none,.string q0.name,.int .i64 hi] X fun e w'=>xG (tr.YJ q0.name hi) q0.name 252 hi [] X e w' from fun X=>ask_nil q0.name hi X);clear QJ;go_upto_region 6 with fail
    go_region_with (go_at_call 17;(with_reducible refine(HAN.out _).mono ?_);intro e wA hp;obtain⟨h0,qa',qn',qc',ua',un',uc',rfl,hbA,hcA⟩:=ask_one hp;have hA2:=Below.trans (B:=w2.heap.size) (a:=w2) (Below.refl _ _).drew (hbA.mono (Nat.le_refl _));obtain⟨y0,y1,y2,y3,y4,y5,y6,y7,y8,y9,y10,y11,y12,y13⟩:=qy.facts (HM5.out.below hA2);have f0:=qy.free (HM5.out.below hA2) 0;have f1:=qy.free (HM5.out.below hA2) 1;have f2:=qy.free (HM5.out.below hA2) 2;have f3:=qy.free (HM5.out.below hA2) 3;have f4:=qy.free (HM5.out.below hA2) 4;have f5:=qy.free (HM5.out.below hA2) 5;have f6:=qy.free (HM5.out.below hA2) 6;have f7:=qy.free (HM5.out.below hA2) 7;have f8:=qy.free (HM5.out.below hA2) 8;have f9:=qy.free (HM5.out.below hA2) 9;have f10:=qy.free (HM5.out.below hA2) 10;have f11:=qy.free (HM5.out.below hA2) 11;have f12:=qy.free (HM5.out.below hA2) 12;have f13:=qy.free (HM5.out.below hA2) 13)
    all_goals
     have hst:=askW_store (Z:=Z) (q:=⟨⟨hi,rs,op,b3,b4,b5,b6,b7,b8,rc⟩,qs,an,au,ad⟩) HBWL.out (HB2.out.trans (hA2.mono HB2.out.size)) (HM5.out.below hA2) HK.out (by simp) hcA;go_wp2_with fail;go_meet;exact⟨_,rfl,qe hst.2,qe hst.1⟩
   ·have e5:(q0.typ == 252)=false:=by rw[beq_eq_false_iff_ne];exact QJ
    rcases HZ.out with⟨rfl,rfl⟩|⟨A,z,rfl,rfl,hok,hzf⟩
    ·have HK:=qe (tr.asked_none (q:=⟨⟨hi,rs,op,b3,b4,b5,b6,b7,b8,rc⟩,qs,an,au,ad⟩) HQS.out QJ);clear QJ;go_wp2_with fail;go_meet;exact⟨8,rfl,HB2,qe ⟨ByteArray.empty,0,[],hd0,none,0,0,none,0,0,by rw[HK.out];rfl,by simp,HM5.out,fun h=>absurd h (by decide)⟩⟩
    ·have HK:=qe (tr.asked_some (A:=A) (q:=⟨⟨hi,rs,op,b3,b4,b5,b6,b7,b8,rc⟩,qs,an,au,ad⟩) HQS.out QJ);have HAZ:=qe (ask_zone w2.heap.size z A hok ⟨#[]⟩ hi w2 hzf);clear QJ hok hzf;go_upto_region 8 with fail;go_wp2_with fail;refine HAZ.out.mono ?_;intro e wA hp;obtain⟨h0,qa',qn',qc',ua',un',uc',rfl,hA2,hcA⟩:=ask_one hp;have hm5:=HM5.out.below hA2;obtain⟨y0,y1,y2,y3,y4,y5,y6,y7,y8,y9,y10,y11,y12,y13⟩:=qy.facts hm5;have f0:=qy.free hm5 0;have f1:=qy.free hm5 1;have f2:=qy.free hm5 2;have f3:=qy.free hm5 3;have f4:=qy.free hm5 4;have f5:=qy.free hm5 5;have f6:=qy.free hm5 6;have f7:=qy.free hm5 7;have f8:=qy.free hm5 8;have f9:=qy.free hm5 9;have f10:=qy.free hm5 10;have f11:=qy.free hm5 11;have f12:=qy.free hm5 12;have f13:=qy.free hm5 13;have hst:=askW_store (Z:=some A) (q:=⟨⟨hi,rs,op,b3,b4,b5,b6,b7,b8,rc⟩,qs,an,au,ad⟩) HBWL.out (HB2.out.trans (hA2.mono HB2.out.size)) hm5 HK.out (by simp) hcA;have HST:=qe hst;clear hst hp hm5 hA2 hcA;go_wp2_with fail;go_meet;exact⟨_,rfl,qe HST.out.2,qe HST.out.1⟩
  obtain⟨c,rfl,HBX,HW⟩:=hcut;obtain⟨n,t,au',h0,qa',qn',qc',ua',un',uc',hK,hal,hmW,hcc⟩:=HW.out;have HK:=qe hK;have HMW:=qe hmW;have HAL:=qe hal;have HBC:=qe (HB1.out.trans (HBX.out.mono HB1.out.size));clear hK hmW hal HW c0 c1 c2 hl0 e4;clear m0 m1 m2 m3 m4 m5 m6 m7 m8 m9 m10 m11 m12 m13;obtain⟨wx,hwx⟩:∃X:World,X=wc:=⟨_,rfl⟩;subst hwx;obtain⟨m0,m1,m2,m3,m4,m5,m6,m7,m8,m9,m10,m11,m12,m13⟩:=(HM.out.below HBX.out).facts;by_cases hc0:c=0
  ·have e1:(c == 0)=true:=by rw[beq_iff_eq];exact hc0
   obtain⟨rfl,hqX,huX⟩:=hcc hc0;obtain⟨rfl,-,-,-⟩:qn'=1∧True∧True∧True:=⟨by obtain⟨_,_,e,_⟩:=hqX;simp only[Value.slice.injEq]at e;exact e.2.1,trivial,trivial,trivial⟩;obtain rfl:un'=au'.length:=by obtain⟨_,_,e,_⟩:=huX;simp only[Value.slice.injEq]at e;exact e.2.1
   have HC0:=qe hc0;have HQX:=qe hqX;have HUX:=qe huX;clear hc0 hcc hqX huX;obtain⟨z0,z1,z2,z3,z4,z5,z6,z7,z8,z9,z10,z11,z12,z13⟩:=qy.facts HMW.out;have e2:(hi == hi)=true:=by rw[beq_iff_eq]
   cases rs
   ·skip
    by_cases hop:op=0
    ·have dop:(op == 0)=true:=by rw[beq_iff_eq];exact hop
     have HOP:=qe hop;clear hop
     cases b3
     ·skip
      cases b4
      ·skip
       cases b5
       ·skip
        cases b6
        ·skip
         cases b7
         ·skip
          cases b8
          ·skip
           by_cases hrc:rc=0
           ·have drc:(rc == 0)=true:=by rw[beq_iff_eq];exact hrc
            have HRC:=qe hrc;clear hrc;obtain⟨eb,heb⟩:∃b,b=decide (qs= [⟨n,t,1⟩]):=⟨_,rfl⟩;have HEB:=qe heb;have CQ:=qe (show Calls Tryz.prog 89 #[.slice (some ⟨qb,Xj,none⟩) qs.length qc,.slice qa' 1 qc'] wx fun e w'=>e= .returned (.bool eb)∧Below wx.heap.size wx w' from by rw[heb];exact equalQ_any qs [⟨n,t,1⟩] HLQ.out _ _ wx (HQ.out.below HBX.out) HQX.out);clear heb;go_wp2_with fail;refine CQ.out.mono ?_;rintro e wy ⟨rfl,hBY⟩;have HBXY:=qe (HBX.out.trans (hBY.mono HBX.out.size));have HBY:=qe hBY;have HBCY:=qe (HB1.out.trans (HBXY.out.mono HB1.out.size));clear hBY z0 z1 z2 z3 z4 z5 z6 z7 z8 z9 z10 z11 z12 z13;clear m0 m1 m2 m3 m4 m5 m6 m7 m8 m9 m10 m11 m12 m13;obtain⟨m0,m1,m2,m3,m4,m5,m6,m7,m8,m9,m10,m11,m12,m13⟩:=(HM.out.below HBXY.out).facts;obtain⟨z0,z1,z2,z3,z4,z5,z6,z7,z8,z9,z10,z11,z12,z13⟩:=qy.facts (HMW.out.below HBY.out)
            cases eb
            ·
             have HR:=qe (show tr.zP Z ⟨⟨hi,false,op,false,false,false,false,false,false,rc⟩,qs,an,au,ad⟩=false from by rw[HK.out];(have:=HEB.out;simp[tr.xL,← HEB.out]));go_wp2_with fail;go_ret;exact⟨qH HR.out.symm,HBCY.out⟩
            ·obtain⟨ea,hea⟩:∃b,b=decide (au=au'):=⟨_,rfl⟩;have HEA:=qe hea;have CR:=qe (show Calls Tryz.prog 136 #[.slice ua au.length uc,.slice ua' au'.length uc'] wy fun e w'=>e= .returned (.bool ea)∧Below wy.heap.size wy w' from by rw[hea];exact equalR_any au au' HLU.out _ _ wy (HU.out.below HBXY.out) (HUX.out.below HBY.out));clear hea;go_wp2_with fail;refine CR.out.mono ?_;rintro e wv ⟨rfl,hBV⟩;have HBXV:=qe (HBXY.out.trans (hBV.mono HBXY.out.size));have HBCV:=qe (HB1.out.trans (HBXV.out.mono HB1.out.size));clear hBV z0 z1 z2 z3 z4 z5 z6 z7 z8 z9 z10 z11 z12 z13;clear m0 m1 m2 m3 m4 m5 m6 m7 m8 m9 m10 m11 m12 m13;obtain⟨m0,m1,m2,m3,m4,m5,m6,m7,m8,m9,m10,m11,m12,m13⟩:=(HM.out.below HBXV.out).facts
             cases ea
             ·
              have HR:=qe (show tr.zP Z ⟨⟨hi,false,op,false,false,false,false,false,false,rc⟩,qs,an,au,ad⟩=false from by rw[HK.out];(simp[tr.xL,← HEA.out]));go_wp2_with fail;go_ret;exact⟨qH HR.out.symm,HBCV.out⟩
             ·obtain⟨el,hel⟩:∃b,b=decide (an.length+ad.length=0):=⟨_,rfl⟩;have ew:IntKind.i64.wrap ((an.length:Int)+(ad.length:Int))=(an.length:Int)+(ad.length:Int):=IntWalk.i64_in _ (by have:=HLA.out;have:=HLD.out;omega);have e9:((an.length:Int)+(ad.length:Int) == 0)=el:=by
               rw[hel];by_cases hz:an.length+ad.length=0
               ·rw[decide_eq_true hz,beq_iff_eq];omega
               ·rw[decide_eq_false hz,beq_eq_false_iff_ne];omega
              have HR:=qe (show tr.zP Z ⟨⟨hi,false,op,false,false,false,false,false,false,rc⟩,qs,an,au,ad⟩=el from by rw[HK.out,HC0.out,hel];simp[tr.xL,hdI,HOP.out,HRC.out,← HEB.out,← HEA.out]);clear hel;go_wp2_with fail;go_ret;exact⟨qH HR.out.symm,HBCV.out⟩
           ·have drc:(rc == 0)=false:=by rw[beq_eq_false_iff_ne];exact hrc
            have HR:=qe (show tr.zP Z ⟨⟨hi,false,op,false,false,false,false,false,false,rc⟩,qs,an,au,ad⟩=false from by rw[HK.out];(simp[tr.xL,hdI,hrc]));go_wp2_with fail;go_ret;exact⟨qH HR.out.symm,HBC.out⟩
          ·have HR:=qe (show tr.zP Z ⟨⟨hi,false,op,false,false,false,false,false,true,rc⟩,qs,an,au,ad⟩=false from by rw[HK.out];(simp[tr.xL,hdI]));go_wp2_with fail;go_ret;exact⟨qH HR.out.symm,HBC.out⟩
         ·have HR:=qe (show tr.zP Z ⟨⟨hi,false,op,false,false,false,false,true,b8,rc⟩,qs,an,au,ad⟩=false from by rw[HK.out];(simp[tr.xL,hdI]));go_wp2_with fail;go_ret;exact⟨qH HR.out.symm,HBC.out⟩
        ·have HR:=qe (show tr.zP Z ⟨⟨hi,false,op,false,false,false,true,b7,b8,rc⟩,qs,an,au,ad⟩=false from by rw[HK.out];(simp[tr.xL,hdI]));go_wp2_with fail;go_ret;exact⟨qH HR.out.symm,HBC.out⟩
       ·have HR:=qe (show tr.zP Z ⟨⟨hi,false,op,false,false,true,b6,b7,b8,rc⟩,qs,an,au,ad⟩=false from by rw[HK.out];(simp[tr.xL,hdI]));go_wp2_with fail;go_ret;exact⟨qH HR.out.symm,HBC.out⟩
      ·have HR:=qe (show tr.zP Z ⟨⟨hi,false,op,false,true,b5,b6,b7,b8,rc⟩,qs,an,au,ad⟩=false from by rw[HK.out];(simp[tr.xL,hdI]));go_wp2_with fail;go_ret;exact⟨qH HR.out.symm,HBC.out⟩
     ·have HR:=qe (show tr.zP Z ⟨⟨hi,false,op,true,b4,b5,b6,b7,b8,rc⟩,qs,an,au,ad⟩=false from by rw[HK.out];(simp[tr.xL,hdI]));go_wp2_with fail;go_ret;exact⟨qH HR.out.symm,HBC.out⟩
    ·have dop:(op == 0)=false:=by rw[beq_eq_false_iff_ne];exact hop
     have HR:=qe (show tr.zP Z ⟨⟨hi,false,op,b3,b4,b5,b6,b7,b8,rc⟩,qs,an,au,ad⟩=false from by rw[HK.out];(simp[tr.xL,hdI,hop]));go_wp2_with fail;go_ret;exact⟨qH HR.out.symm,HBC.out⟩
   ·have HR:=qe (show tr.zP Z ⟨⟨hi,true,op,b3,b4,b5,b6,b7,b8,rc⟩,qs,an,au,ad⟩=false from by rw[HK.out];(simp[tr.xL,hdI]));go_wp2_with fail;go_ret;exact⟨qH HR.out.symm,HBC.out⟩
  ·have e1:(c == 0)=false:=by rw[beq_eq_false_iff_ne];exact hc0
   have HR:=qe (show tr.zP Z ⟨⟨hi,rs,op,b3,b4,b5,b6,b7,b8,rc⟩,qs,an,au,ad⟩=false from by rw[HK.out];(simp[hc0]));go_wp2_with fail;go_ret;exact⟨qH HR.out.symm,HBC.out⟩
 ·have e4:((qs.length:Int) != 1)=true:=by rw[bne_iff_ne];omega
  have HR:=qe (show tr.zP Z ⟨⟨hi,rs,op,b3,b4,b5,b6,b7,b8,rc⟩,qs,an,au,ad⟩=false from tr.asked_many hq1);go_wp2_with fail;go_ret;exact⟨qH HR.out.symm,HB1.out⟩
theorem U7 {w:World}{ty:TypeId}(base:Nat)(v:Value)(n:Nat)(xs:List Value)(hown:w.ownsRow base 80 5 v n xs)(u:Value)(l:List Rec)(hu:qm w u l)(hl:n+l.length≤1000000000)(hbase:base≤w.heap.size):
 ∃v' w',(Builtin.append_ #[31,31] ty #[v,u]).run Tryz.prog w= .ok v' w'∧w'.ownsRow base 80 5 v' (n+l.length) (xs ++ qp l)∧w.grownBy w' v.ownBlock∧∀b,v'.ownBlock=some b→v.ownBlock=some b∨w.heap.size≤b:=by
 obtain⟨i,hi,hz,hz1,hz2⟩:=info_parts jM;obtain⟨a,cap,rfl,hcap,hr⟩:=id hu
 cases a with
 | none=>
   have h0:l= []:=by
    match l,hr with
    | [],_=>rfl
    | x :: t,hr=>obtain⟨b,off,e,_⟩:=hr 0 (by simp);cases e
   subst h0;obtain⟨va,vc,rfl,hvc⟩:=qi hown;have hr:=run_append_nothing (P:=Tryz.prog) w 31 31 ty 80 i Tryz.underlying31 hi va n vc hvc (.slice none 0 cap) (Src.ofNil w Tryz.underlying31 cap);exact⟨_,w,hr,by simpa[qp] using hown,⟨rfl,rfl,rfl,Nat.le_refl _,fun _ _ _=>rfl⟩,fun b hb=>.inl hb⟩
 | some ad=>
   obtain⟨hn,hc⟩:=Zy hu;obtain⟨v',w',hr,h2,h3,_⟩:=run_append_own (P:=Tryz.prog) w base 31 ty 80 i (.agg #[.string ⟨#[]⟩,.int .i64 0,.int .i64 0,.int .i64 0,.string ⟨#[]⟩]) 5 56 Tryz.underlying31 hi hz hz1 hz2 rfl (by decide) v n xs hown ad l.length cap (qp l) (zK l) hc (vV l)
    (by unfold maxLen;omega) (by omega) hbase
   have h4:=QM w base 31 ty 80 i (.agg #[.string ⟨#[]⟩,.int .i64 0,.int .i64 0,.int .i64 0,.string ⟨#[]⟩]) 5 56 Tryz.underlying31 hi hz hz1 hz2 v n xs hown ad l.length cap (qp l) (zK l) hc (vV l)
    (by unfold maxLen;omega) (by omega) hr
   exact⟨v',w',hr,h2,h3,h4⟩
theorem K9 {ops:Array Oper}{o:Oper}{a:Act}{w:World}{K:Act→World→Prop}{Q:Exit→Act→World→Prop}{E:Prop}(hgd:o.guard=none)(s x:Operand)
 (ho:o.op= .call { callee:=.builtin .append,args:=#[s,x],argTypes:=#[31,31]})
 (base:Nat) (v:Value) (n:Nat) (xs:List Value) (hs:a.eval s=v) (hown:w.ownsRow base 80 5 v n xs)
 (u:Value) (l:List Rec) (hu:qm w u l) (hx:a.eval x=u) (hl:n+l.length≤1000000000) (hbase:base≤w.heap.size)
 (h:∀v' w',w'.ownsRow base 80 5 v' (n+l.length) (xs ++ qp l)→w.grownBy w' v.ownBlock→(∀b,v'.ownBlock=some b→v.ownBlock=some b∨w.heap.size≤b)→K (a.put o.dst v') w'):
 if Region.wanted o (yielded ops a.tmps)=true then Oper.wp Tryz.prog o a w K Q else E:=by
 obtain⟨v',w',hr,h2,h3,h4⟩:=U7 (ty:=o.type) base v n xs hown u l hu hl hbase;have hw:Region.wanted o (yielded ops a.tmps)=true:=by simp[Region.wanted,hgd]
 rw[if_pos hw];unfold Oper.wp;simp[execOp,ho,resolve,invoke,builtin,hs,hx,hr,Result.andThen];exact h v' w' h2 h3 h4
namespace tr
section
variable {Z:Option Zn}{q:Msg}{xs:List Msg}
theorem take_asked (h:zP Z q=false):uf Z q xs= .err 8:=if_pos h
theorem take_nil (h:zP Z q=true):uf Z q []= .err 10:=by unfold uf;rw[if_neg (by rw[h];simp)];exact if_pos rfl
theorem Z5 (h:zP Z q=true){k:Nat}(hk:k<xs.length)(hb:Ju q xs[k]=true):uf Z q xs= .err 8:=by
 unfold uf;rw[if_neg (by rw[h];simp),if_neg (by omega),if_pos (List.any_eq_true.2 ⟨_,List.getElem_mem hk,hb⟩)]
theorem any_no {f:Msg→Bool}(h:∀j (hj:j<xs.length),f xs[j]=false):¬(xs.any f=true):=by
 rw[List.any_eq_true];rintro⟨m,hm,h1⟩;obtain⟨j,hj,rfl⟩:=List.getElem_of_mem hm;rw[h j hj]at h1
 cases h1
theorem take_code (h:zP Z q=true)(hn:∀j (hj:j<xs.length),Ju q xs[j]=false){k:Nat}(hk:k<xs.length)(hb:xs[k].h.jq≠0):uf Z q xs= .err 28:=by
 unfold uf;rw[if_neg (by rw[h];simp),if_neg (by omega),if_neg (any_no hn),if_pos (List.any_eq_true.2 ⟨_,List.getElem_mem hk,by simp[hb]⟩)]
theorem take_row (h:zP Z q=true)(h0:xs.length≠0)(hn:∀j (hj:j<xs.length),Ju q xs[j]=false)(hc:∀j (hj:j<xs.length),xs[j].h.jq=0):uf Z q xs=Q0 (if(nameQ q).typ=251 then Z else none) (nameQ q).name (rowsOf xs):=by
 unfold uf;rw[if_neg (by rw[h];simp),if_neg h0,if_neg (any_no hn),if_neg (any_no fun j hj=>by simp[hc j hj])]
theorem rows_next {k:Nat}(hk:k<xs.length):rowsOf (xs.take (k+1))=rowsOf (xs.take k) ++ xs[k].an:=by
 unfold rowsOf;rw[List.take_succ_eq_append_getElem hk,List.flatMap_append,List.flatMap_singleton]
theorem rows_le {k:Nat}:(rowsOf (xs.take k)).length≤(rowsOf xs).length:=by
 unfold rowsOf;rw[← List.take_append_drop k xs,List.flatMap_append,List.length_append,List.take_append_drop];exact Nat.le_add_right _ _
theorem asked_one (h:zP Z q=true):∃n0,q.qs= [n0]∧nameQ q=n0∧n0.cls=1∧q.h.op=0∧((n0.typ=252∧qo n0.name=true∧q.au.length=0)∨(n0.typ=251∧∃A,Z=some A∧n0.name=A.ap∧q.au= [ze A])):=by
 unfold zP at h
 match e:q.qs with
 | []=>rw[e]at h;cases h
 | _ :: _ :: _=>rw[e]at h;cases h
 | [n0]=>
   rw[e]at h;simp only[Bool.and_eq_true,decide_eq_true_eq]at h;obtain⟨⟨⟨⟨⟨h1,h2⟩,h3⟩,h4⟩,h5⟩,h6⟩:=h;refine⟨n0,rfl,by unfold nameQ;rw[e],h2,by rw[h1],?_⟩;by_cases ht:n0.typ=252
   ·rw[if_pos ht]at h6;simp only[Bool.and_eq_true,decide_eq_true_eq]at h6;exact .inl ⟨ht,h6.1,h6.2⟩
   ·rw[if_neg ht]at h6
    cases Z with
    | none=>cases h6
    | some A=>
      have h7:=of_decide_eq_true h6;exact .inr ⟨h7.1,A,rfl,h7.2.1,h7.2.2⟩
theorem bad_rows {m:Msg}(h:Ju q m=false):∀r∈m.an,wi.qR r=true:=by
 unfold Ju at h;have h2:wi.jE m.h m.qs m.an m.au m.ad=true:=by
  cases e:wi.jE m.h m.qs m.an m.au m.ad
  ·rw[e]at h;simp at h
  ·rfl
 unfold wi.jE at h2;simp only[Bool.and_eq_true,List.all_eq_true]at h2;exact h2.1.1.2
end
end tr
end Go.Proofs.YtpcmilhjpmlbpaaGreatDoor
