import Derived.Test.YtpcmilhjpmlbpaaGreatDoorQTwR
import Derived.Test.YtpcmilhjpmlbpaaGreatDoorQCpQ
import Derived.BigQuiet
set_option maxRecDepth 100000
set_option maxHeartbeats 32000000
namespace Go.Proofs.YtpcmilhjpmlbpaaGreatDoor
open Go.RowKit Go.Shelf nm od
theorem takes_any (ap:ByteArray)(l:List Rec)(rv:Value)(hap:ap.size<=1099511627776)(hwf:∀r∈l,(Lit.int .i64 r.typ).wf=true)(hos:∀r∈l,r.owner.size<=1099511627776)(hsa:yn rv)(nn:Bool)(name:ByteArray)(hnm:name.size<=1099511627776)(idn:Int)
 (M:Msg) (mq ma mu md:Value) (fit:MsgFit M mq ma mu md) (hsq:∀y∈M.qs,y.name.size<=1099511627776) (ms:List Msg) (hms:ms.length<=1048576) (hrn:rowsN ms<=1048576) (u:Value) (w:World) (het:ErrT w) (hr:ql w rv l) (hin:KJ w M mq ma mu md) (hu:YY w u ms):
 Calls Tryz.prog 4 #[.agg #[.string ap,rv],.bool nn,.string name,.int .i64 idn,yu M.h mq ma mu md,u] w λe w'=>e= .returned (.bool true)/\Below w.heap.size w w':=by
 obtain⟨hd,qs,an,au,ad⟩:=M;obtain⟨hi,rs,op,b3,b4,b5,b6,b7,b8,rc⟩:=hd;obtain⟨rq,ra,ru,rd⟩:=hin;have nq:=fit.nq;have na:=fit.na;have nu:=fit.nu;have nd:=fit.nd;have HFQ:=qe fit.fq.any;have HFA:=qe fit.fa.any;have HFU:=qe fit.fu.any;have HFD:=qe fit.fd.any;have HSQ:=qe (show ∀x∈qs,x.name.size<=1099511627776 from hsq);simp only at rq ra ru rd nq na nu nd HFQ HFA HFU HFD;obtain⟨mqa,mqc,rfl,-⟩:=id rq;obtain⟨maa,mac,rfl,-⟩:=id ra;obtain⟨mua,muc,rfl,-⟩:=id ru;obtain⟨mda,mdc,rfl,-⟩:=id rd;obtain⟨lra,lrc,rfl,-⟩:=id hr;obtain⟨ua,uc,rfl,-⟩:=id hu;obtain⟨w1,hw1⟩:=yM (w.alloc (.cells #[.string ap,.slice lra l.length lrc] 42));obtain⟨g1,hg1⟩:=yM w.heap.size;have hB1:Below w.heap.size w w1:=by rw[hw1];exact(gJ _ _).alloc (gI _) _
 have hn1:w1.heap[g1]? =some (.cells #[.string ap,.slice lra l.length lrc] 42 (0,0)):=by rw[hw1,hg1];exact qz rfl
 have hz1:w.heap.size+1=w1.heap.size:=by rw[hw1];simp
 obtain⟨w2,hw⟩:=yM (w1.alloc (.cells (yT ⟨hi,rs,op,b3,b4,b5,b6,b7,b8,rc⟩ (.slice mqa qs.length mqc) (.slice maa an.length mac) (.slice mua au.length muc) (.slice mda ad.length mdc)).toArray 33));obtain⟨hB,hs,hm⟩:=zG hw;obtain⟨g2,hb⟩:=yM w1.heap.size;rw[<- hb]at hm;have HWg2:=qe hw;have HNg2:=qe hb;have HMg2:=qe hm;have HBg2:=qe hB;have HSg2:=qe hs;clear hw hB hs hm hb;have hB2:Below w.heap.size w w2:=gm hB1 HBg2.out;have hn2:=(HBg2.out.block g1 (zm hn1)).trans hn1;have c0:w2.cell? ⟨g1,0,none⟩=some (.string ap):=by rw[qg hn2];rfl
 have c1:w2.cell? ⟨g1,1,none⟩=some (.slice lra l.length lrc):=by rw[qg hn2];rfl
 have HBO:=qe ((both7_any ap hap l hwf hos _ hsa w2 (hr.below hB2)).mono λe w' h=>both_has hap hos h);have HW1:=qe hw1;have HG1:=qe hg1;have HZ1:=qe hz1;have HB2:=qe hB2;have HQ:=qe rq;have HA:=qe ra;have HU:=qe ru;have HD:=qe rd;have HMS:=qe hu;have HNQ:=qe (show qs.length<=1048576/\an.length<=1048576/\au.length<=1048576/\ad.length<=1048576 from⟨nq,na,nu,nd⟩);have HET:=qe het;have HML:=qe hms;have HRN:=qe hrn;have HNM:=qe hnm;have HFT:=qe hu.fits;clear hap hwf hos hsa hnm fit hsq hms hrn het hr hu rq ra ru rd nq na nu nd hw1 hg1 hz1 hB1 hn1 hn2 hB2
 go_enter Tryz.func4,Tryz.ntmps4
 go_upto_region 1 with fail;rw[HZ1.out,<- HNg2.out,<- HW1.out,<- HWg2.out,<- HG1.out];go_wp2_with fail;refine HBO.out.mono ?_;rintro e w3 ⟨hB3,zp0,yp0,Z0,rfl,hz,hy⟩;have HB3:=qe (gm HB2.out hB3);have Ul:=qe hB3;have HZ0:=qe hz;have HY0:=qe hy;have HAL:=qe (alive_any w3 (HET.out.below HB3.out));clear hB3 hz hy HBO c0 c1;go_wp2_with fail;refine HAL.out.mono ?_;rintro e w4 ⟨rfl,hB4⟩;have HB4:=qe (gm HB3.out hB4);have HB24:=qe (gm Ul.out hB4);have HZ4:=qe (HZ0.out.below hB4);have HY4:=qe (HY0.out.below hB4);clear hB4 HAL HZ0 HY0
 go_upto_if 39 with fail
 go_cut [13,14] (λzv yv wx=>∃zp yp Z,zv= .pointer zp/\yv= .pointer yp/\Hid (VV wx (.pointer zp) Z)/\Hid (Vb wx (.pointer yp) Z)/\Hid (Below w4.heap.size w4 wx))
 case first=>
  cases nn
  ·go_wp2_with fail;go_meet;exact⟨_,_,Z0,rfl,rfl,HZ4,HY4,qe (gJ _ _)⟩
  ·go_wp2_with fail;go_meet;exact⟨_,_,none,rfl,rfl,qe (.inl ⟨rfl,rfl⟩),qe (.inl ⟨rfl,rfl⟩),qe (gJ _ _)⟩
 obtain⟨zp,yp,Z,rfl,rfl,HZ5,HY5,jI⟩:=hcut;obtain⟨w5,hw5⟩:=yM wc;subst hw5;have HB5:=qe (gm HB4.out jI.out);have HB25:=qe (gm HB24.out jI.out);obtain⟨hdA,qsA,auA,cA,nqA,nuA,hA1,hA2⟩:=ask_both Z zp yp name HNM.out idn;have HA1:=qe hA1;have HA2:=qe hA2;have HNA:=qe (show qsA.length<=1000000000000/\auA.length<=1000000000000 from⟨by omega,by omega⟩);clear hA1 hA2 nqA nuA HZ4 HY4 jI;go_wp2_with fail;refine(HA1.out w5 HZ5.out).mono ?_;rintro e w6 ⟨aq,aa,au1,ad1,rfl,hB6,haq,haa,hau,had⟩;obtain⟨aqa,aqc,rfl,-⟩:=id haq;obtain⟨aaa,aac,rfl,-⟩:=id haa;obtain⟨aua,auc,rfl,-⟩:=id hau;obtain⟨ada,adc,rfl,-⟩:=id had;obtain⟨nqA,hnqA⟩:=yM qsA.length;obtain⟨nuA,hnuA⟩:=yM auA.length;obtain⟨nnA,hnnA⟩:=yM (([]:List Rec).length);rw[<- hnqA]at haq ⊢;rw[<- hnuA]at hau ⊢;rw[<- hnnA]at haa had ⊢;have HNQA:=qe hnqA;have HNUA:=qe hnuA;have HNNA:=qe hnnA;clear hnqA hnuA hnnA;obtain⟨w7,hw⟩:=yM (w6.alloc (.cells (yT hdA (.slice aqa nqA aqc) (.slice aaa nnA aac) (.slice aua nuA auc) (.slice ada nnA adc)).toArray 33));obtain⟨hB,hs,hm⟩:=zG hw;obtain⟨g7,hb⟩:=yM w6.heap.size;rw[<- hb]at hm;have HWg7:=qe hw;have HNg7:=qe hb;have HMg7:=qe hm;have HBg7:=qe hB;have HSg7:=qe hs;clear hw hB hs hm hb;have HB57:=qe (gm hB6 HBg7.out);have HQ7:=qe (haq.below HBg7.out);have HA7:=qe (haa.below HBg7.out);have HU7:=qe (hau.below HBg7.out);have HD7:=qe (had.below HBg7.out);clear hB6 haq haa hau had;go_upto_region 7 with fail;rw[<- HWg7.out,<- HNg7.out];go_wp2_with fail;refine(HA2.out w7 (HY5.out.below HB57.out)).mono ?_;rintro e w8 ⟨bq,ba,bu,bd,rfl,hB8,hbq,hba,hbu,hbd⟩;obtain⟨bqa,bqc,rfl,-⟩:=id hbq;obtain⟨baa,bac,rfl,-⟩:=id hba;obtain⟨bua,buc,rfl,-⟩:=id hbu;obtain⟨bda,bdc,rfl,-⟩:=id hbd;rw[<- HNQA.out]at hbq ⊢;rw[<- HNUA.out]at hbu ⊢;rw[<- HNNA.out]at hba hbd ⊢;obtain⟨w9,hw⟩:=yM (w8.alloc (.cells (yT hdA (.slice bqa nqA bqc) (.slice baa nnA bac) (.slice bua nuA buc) (.slice bda nnA bdc)).toArray 33));obtain⟨hB,hs,hm⟩:=zG hw;obtain⟨g9,hb⟩:=yM w8.heap.size;rw[<- hb]at hm;have HWg9:=qe hw;have HNg9:=qe hb;have HMg9:=qe hm;have HBg9:=qe hB;have HSg9:=qe hs;clear hw hB hs hm hb;have HB79:=qe (gm hB8 HBg9.out);have HB59:=qe (gm HB57.out HB79.out);have HCM:=qe (show Calls Tryz.prog 19 #[yu hdA (.slice aqa nqA aqc) (.slice aaa nnA aac) (.slice aua nuA auc) (.slice ada nnA adc),yu hdA (.slice bqa nqA bqc) (.slice baa nnA bac) (.slice bua nuA buc) (.slice bda nnA bdc)] w9 λe w'=>e= .returned (.bool true)/\Below w9.heap.size w9 w' from
  messages_same hdA qsA [] auA [] HNA.out.1 (by simp) HNA.out.2 (by simp) _ _ _ _ _ _ _ _ w9 (HQ7.out.below HB79.out) (hbq.below HBg9.out) (HA7.out.below HB79.out) (hba.below HBg9.out) (HU7.out.below HB79.out) (hbu.below HBg9.out) (HD7.out.below HB79.out) (hbd.below HBg9.out))
 have HM79:=qe (HMg7.out.below HB79.out);clear hB8 hbq hba hbu hbd;go_upto_region 8 with fail;rw[<- HWg9.out,<- HNg9.out];have e0:(cA != cA)=false:=by rw[Hy]
 obtain⟨x0,x1,x2,x3,x4,x5,x6,x7,x8,x9,x10,x11,x12,x13⟩:=HM79.out.facts;obtain⟨y0,y1,y2,y3,y4,y5,y6,y7,y8,y9,y10,y11,y12,y13⟩:=HMg9.out.facts;go_wp2_with fail;refine HCM.out.mono ?_;rintro e wA ⟨rfl,hBA⟩;have HB5A:=qe (gm HB59.out hBA);have HBA:=qe (gm HB5.out HB5A.out);have HB2A:=qe (gm HB25.out HB5A.out);clear hBA e0 HCM HM79 HQ7 HA7 HU7 HD7 HA1 HA2;clear x0 x1 x2 x3 x4 x5 x6 x7 x8 x9 x10 x11 x12 x13;clear y0 y1 y2 y3 y4 y5 y6 y7 y8 y9 y10 y11 y12 y13;go_wp2_with fail
 go_loopw [65,20] (λkv ov wr=>∃(k:Nat) (T:List Tw) (oa:Option Addr) (tn oc:Nat),k<=ms.length/\kv= .int .i64 (k:Int)/\ov= .slice oa tn oc/\Hid (tn=T.length)/\Hid (YG wr wA.heap.size (.slice oa tn oc) T)/\Hid (T.map (λt=>t.m)=ms.take k)/\Hid (Below wA.heap.size wA wr)) (λkv _ _=>ms.length-(intOf kv).toNat)
 case atStart=>exact⟨0,[],none,0,0,gU _,rfl,rfl,qe rfl,qe (twRow_nil _ _),qe rfl,qe (gJ _ _)⟩
 case round=>
  obtain⟨k,T,oa,tn,oc,hk,rfl,rfl,HTN,HT,HTM,HBR⟩:=hrel;obtain⟨wr4,hw4⟩:=yM wr;subst hw4;have HTL:=qe (show T.length=k by
   have h1:=congrArg List.length HTM.out;rw[List.length_map,List.length_take]at h1;omega)
  by_cases hlt:k<ms.length
  ·have hki:(k:Int)<(ms.length:Int):=by omega
   have ek:IntKind.i64.wrap ((k:Int)+1)=(k:Int)+1:=Hg _ (by have:=HML.out;omega);have HWR:=qe (gm HBA.out HBR.out);obtain⟨ao,cap,hua,-,hm⟩:=HMS.out.below HWR.out;simp only[gL]at hua;obtain⟨rfl,-,-⟩:=hua;obtain⟨xb,xoff,nq0,na0,nu0,nd0,rfl,-,hc,hin,hfit⟩:=hm k hlt;obtain⟨M,hM⟩:=yM (ms[k]);have HTK:=qe (show ms.take (k+1)=ms.take k ++ [M] by rw[hM,gV hlt]);rw[<- hM]at hc hin hfit;obtain⟨hd,kqs,kan,kau,kad⟩:=M;have c0:=hc 0 _ rfl;have c1:=hc 1 _ rfl;have c2:=hc 2 _ rfl;have c3:=hc 3 _ rfl;have c4:=hc 4 _ rfl;have c5:=hc 5 _ rfl;have c6:=hc 6 _ rfl;have c7:=hc 7 _ rfl;have c8:=hc 8 _ rfl;have c9:=hc 9 _ rfl;have c10:=hc 10 _ rfl;have c11:=hc 11 _ rfl;have c12:=hc 12 _ rfl;have c13:=hc 13 _ rfl;simp only[Nat.add_zero]at c0;obtain⟨hqq,haa,huu,hdd⟩:=hin;have nq:=hfit.nq;have na:=hfit.na;have nu:=hfit.nu;have nd:=hfit.nd;simp only at nq na nu nd hqq haa huu hdd;obtain⟨kqa,kqc,rfl,-⟩:=id hqq;obtain⟨kaa,kac,rfl,-⟩:=id haa;obtain⟨kua,kuc,rfl,-⟩:=id huu;obtain⟨kda,kdc,rfl,-⟩:=id hdd;obtain⟨wB,hw⟩:=yM (wr4.alloc (.cells (yT hd (.slice kqa kqs.length kqc) (.slice kaa kan.length kac) (.slice kua kau.length kuc) (.slice kda kad.length kdc)).toArray 33));obtain⟨hB,hs,hm⟩:=zG hw;obtain⟨gB,hb⟩:=yM wr4.heap.size;rw[<- hb]at hm;have HWgB:=qe hw;have HNgB:=qe hb;have HMgB:=qe hm;have HBgB:=qe hB;have HSgB:=qe hs;clear hw hB hs hm hb;have HTW:=qe (Yd hd kqs kan kau kad (by omega) (by omega) (by omega) (by omega) _ _ _ _ hfit.fq hfit.fa hfit.fu hfit.fd wB (hqq.below HBgB.out) (haa.below HBgB.out) (huu.below HBgB.out) (hdd.below HBgB.out));have HLT:=qe hlt;clear hM hc hm hfit hqq haa huu hdd nq na nu nd hlt;go_upto_region 14 with fail;rw[<- HWgB.out,<- HNgB.out];clear c0 c1 c2 c3 c4 c5 c6 c7 c8 c9 c10 c11 c12 c13;obtain⟨x0,x1,x2,x3,x4,x5,x6,x7,x8,x9,x10,x11,x12,x13⟩:=HMgB.out.facts;go_wp2_with fail;refine HTW.out.mono ?_;rintro e wC ⟨tq,tga,tca,tgu,tcu,tgd,tcd,rfl,hBC,hq6,ha6,hu6,hd6⟩;obtain⟨tqa,tqc,rfl,-⟩:=qj hq6;obtain⟨t,ht⟩:=yM (⟨⟨hd,kqs,kan,kau,kad⟩,.slice tqa kqs.length tqc,tga,tca,tgu,tcu,tgd,tcd⟩:Tw);have htm:t.m=⟨hd,kqs,kan,kau,kad⟩:=by rw[ht]
   obtain⟨wD,hw⟩:=yM (wC.alloc (.cells (yT hd (.slice tqa kqs.length tqc) (.slice (some ⟨tga,0,none⟩) kan.length tca) (.slice (some ⟨tgu,0,none⟩) kau.length tcu) (.slice (some ⟨tgd,0,none⟩) kad.length tcd)).toArray 33));obtain⟨hB,hs,hm⟩:=zG hw;obtain⟨gD,hb⟩:=yM wC.heap.size;rw[<- hb]at hm;have HWgD:=qe hw;have HNgD:=qe hb;have HMgD:=qe hm;have HBgD:=qe hB;have HSgD:=qe hs;clear hw hB hs hm hb;have hBr:Below wr4.heap.size wr4 wD:=HBgB.out.trans ((gm hBC HBgD.out).mono HBgB.out.size);have hle:wA.heap.size<=wr4.heap.size:=HBR.out.size;have hokB:Uh wD wB.heap.size t:=by
    rw[ht];exact⟨ownsRow_below hq6 HBgD.out,ha6.below HBgD.out,hu6.below HBgD.out,hd6.below HBgD.out⟩
   have HFAR:=qe (show ∀b,t.has b->(Value.slice oa tn oc).ownBlock≠some b from λb hb e=>by
    have h1:=(hokB.lt hb).1;have h2:=(HT.out.row.lt b e).2;have h3:=HBgB.out.size;omega)
   have HOK:=qe (show Uh wD wA.heap.size t from hokB.QK (by have h3:=HBgB.out.size;omega));have HTD:=qe (HT.out.below hBr);have xN:=qe (show ∀j u,(twC t)[j]? =some u->wD.cell? ((⟨gD,0,none⟩:Addr).add j)=some u by rw[HWgD.out,HNgD.out,ht];exact ve wC _ _);have HBD:=qe (gm HBR.out hBr);have HTK2:=qe (show(T ++ [t]).map (λt=>t.m)=ms.take (k+1) by rw[List.map_append,HTM.out,HTK.out,List.map_singleton,htm]);have P1:=qe (show T.length<=1048576 by have:=HTL.out;have:=HML.out;have:=HLT.out;omega);clear hBC hq6 ha6 hu6 hd6 ht htm hBr hle hokB HTW;clear x0 x1 x2 x3 x4 x5 x6 x7 x8 x9 x10 x11 x12 x13;go_wp2_with (at_builtin;rw[<- HWgD.out,<- HNgD.out];refine Vm rfl _ _ rfl rfl HTD.out HOK.out HFAR.out gD rfl xN.out P1.out HBD.out.size ?_);intro v8 w8r hr8 hg8;obtain⟨T',hT'⟩:=yM (T ++ [t]);rw[<- hT']at hr8;have HTK3:=HTK2;rw[<- hT']at HTK3;obtain⟨oa',oc',rfl,-⟩:=qj hr8.row;obtain⟨tn',htn'⟩:=yM T'.length;rw[<- htn']at hr8 ⊢;have HTN':=qe htn';have HR8:=qe hr8;have HB8:=qe (HBD.out.grown hg8 HBD.out.size (λj hj=>(HT.out.row.lt j hj).1));clear hr8 hg8 hT' htn';go_wp2_with fail
   go_roundw
   case rel=>exact⟨k+1,T',oa',tn',oc',by have:=HLT.out;omega,by go_num,rfl,HTN',HR8,HTK3,HB8⟩
   case measure=>have:=HLT.out;simp[intOf];omega
  ·as_aux_lemma=>
    obtain rfl:k=ms.length:=by omega
    have hki:¬((ms.length:Int)<(ms.length:Int)):=by omega
    have HTE:=qe (show T.map (λt=>t.m)=ms by rw[HTM.out,List.take_length]);obtain⟨wF,hwF⟩:=yM wr4;subst hwF;have HBF:=qe (gm HBA.out HBR.out);have HB2F:=qe (gm HB2A.out HBR.out);have HB5F:=qe (gm HB5A.out HBR.out);have HM2F:=qe (HMg2.out.below HB2F.out);have HTW:=qe (Yd ⟨hi,rs,op,b3,b4,b5,b6,b7,b8,rc⟩ qs an au ad (by have:=HNQ.out.1;omega) (by have:=HNQ.out.2.1;omega) (by have:=HNQ.out.2.2.1;omega) (by have:=HNQ.out.2.2.2;omega) _ _ _ _ HFQ.out HFA.out HFU.out HFD.out wF (HQ.out.below HBF.out) (HA.out.below HBF.out) (HU.out.below HBF.out) (HD.out.below HBF.out));obtain⟨x0,x1,x2,x3,x4,x5,x6,x7,x8,x9,x10,x11,x12,x13⟩:=HM2F.out.facts;clear hlt hk;go_wp2_with fail;refine HTW.out.mono ?_;rintro e wG ⟨tq,tga,tca,tgu,tcu,tgd,tcd,rfl,hBG,hq6,ha6,hu6,hd6⟩;have hqt:=UF hq6;obtain⟨tqa,tqc,rfl,-⟩:=qj hq6;obtain⟨wH,hw⟩:=yM (wG.alloc (.cells (yT ⟨hi,rs,op,b3,b4,b5,b6,b7,b8,rc⟩ (.slice tqa qs.length tqc) (.slice (some ⟨tga,0,none⟩) an.length tca) (.slice (some ⟨tgu,0,none⟩) au.length tcu) (.slice (some ⟨tgd,0,none⟩) ad.length tcd)).toArray 33));obtain⟨hB,hs,hm⟩:=zG hw;obtain⟨gH,hb⟩:=yM wG.heap.size;rw[<- hb]at hm;have HWgH:=qe hw;have HNgH:=qe hb;have HMgH:=qe hm;have HBgH:=qe hB;have HSgH:=qe hs;clear hw hB hs hm hb;have HBFH:=qe (gm hBG HBgH.out);have HBH:=qe (gm HBF.out HBFH.out);have HB5H:=qe (gm HB5F.out HBFH.out);have HB2H:=qe (gm HB2F.out HBFH.out);have HTQ:=qe (hqt.below HBgH.out);have HTA:=qe (ha6.below HBgH.out);have HTU:=qe (hu6.below HBgH.out);have HTD:=qe (hd6.below HBgH.out);have HTH:=qe (HT.out.below HBFH.out);have HMM:=qe (show uf wH (.slice oa tn oc) ms by
     have h1:=HTH.out.msgs (λt ht=>by
      have h2:=HFT.out t.m (by rw[<- HTE.out];exact List.mem_map_of_mem ht);have h3:=h2.1;exact⟨by omega,by omega,by omega,by omega⟩)
     rw[HTE.out]at h1;exact h1)
    obtain⟨M0,hM0⟩:=yM (⟨⟨hi,rs,op,b3,b4,b5,b6,b7,b8,rc⟩,qs,an,au,ad⟩:Msg);have HTK:=qe (show Calls Tryz.prog 20 #[.pointer zp,yu ⟨hi,rs,op,b3,b4,b5,b6,b7,b8,rc⟩ (.slice tqa qs.length tqc) (.slice (some ⟨tga,0,none⟩) an.length tca) (.slice (some ⟨tgu,0,none⟩) au.length tcu) (.slice (some ⟨tgd,0,none⟩) ad.length tcd),.slice oa tn oc] wH λe w'=>kF (tr.jf Z M0 ms) (.pointer zp) wH e w' from by
     rw[hM0];exact take7_any Z (.pointer zp) hi rs op b3 b4 b5 b6 b7 b8 rc qs an au ad (by have:=HNQ.out.1;omega) (by have:=HNQ.out.2.1;omega) (by have:=HNQ.out.2.2.1;omega) (by have:=HNQ.out.2.2.2;omega) _ _ _ _ ms (by have:=HML.out;omega) (by rw[rowsN_rows];have:=HRN.out;omega) _ wH (HET.out.below HBH.out) (HZ5.out.below HB5H.out) HTQ.out HTA.out.recs HTU.out.recs HTD.out.recs HMM.out)
    have HRT:=qe (show ∀X,Below wH.heap.size wH X->Calls Tryz.prog 21 #[.pointer yp,yu ⟨hi,rs,op,b3,b4,b5,b6,b7,b8,rc⟩ (.slice mqa qs.length mqc) (.slice maa an.length mac) (.slice mua au.length muc) (.slice mda ad.length mdc),.slice ua ms.length uc] X λe w'=>qU (tr.jf Z M0 ms) (.pointer yp) X e w' from λX hX=>by
     have hX0:=gm HBH.out hX;rw[hM0];exact rtake_any Z (.pointer yp) hi rs op b3 b4 b5 b6 b7 b8 rc qs an au ad HSQ.out _ _ _ _ ms (by have:=HML.out;omega) (by rw[rowsN_rows];have:=HRN.out;omega) (λm hm=>(HFT.out m hm).2) _ X (HY5.out.below (gm HB5H.out hX)) (HQ.out.below hX0) (HA.out.below hX0) (HU.out.below hX0) (HD.out.below hX0) (HMS.out.below hX0).row)
    clear hBG hq6 ha6 hu6 hd6 hqt HTW hM0 HM2F;clear x0 x1 x2 x3 x4 x5 x6 x7 x8 x9 x10 x11 x12 x13;go_upto_region 17 with fail;rw[<- HWgH.out,<- HNgH.out];obtain⟨x0,x1,x2,x3,x4,x5,x6,x7,x8,x9,x10,x11,x12,x13⟩:=HMgH.out.facts;go_wp2_with fail;refine HTK.out.mono ?_;rintro e wI hP;obtain⟨hBI,p1,c1,rfl,hP⟩:=hP.two;have HP:=qe hP;have HBI:=qe hBI;have HM2I:=qe (HMg2.out.below (gm HB2H.out hBI));clear hP hBI;clear x0 x1 x2 x3 x4 x5 x6 x7 x8 x9 x10 x11 x12 x13;obtain⟨y0,y1,y2,y3,y4,y5,y6,y7,y8,y9,y10,y11,y12,y13⟩:=HM2I.out.facts;go_wp2_with fail;refine(HRT.out wI HBI.out).mono ?_;rintro e wJ hP2;obtain⟨hBJ,p2,c2,rfl,hP2⟩:=hP2.duo;obtain⟨rfl,R,hT1,hT2⟩:=took (HZ5.out.below HB5H.out) (HY5.out.below (gm HB5H.out HBI.out)) HP.out hP2;have HT1:=qe (hT1.below hBJ);have HT2:=qe hT2;have HBHJ:=qe (gm HBI.out hBJ);have HBJ:=qe (gm HBH.out HBHJ.out);have HB5J:=qe (gm HB5H.out HBHJ.out);have HM2J:=qe (HM2I.out.below hBJ);have HMHJ:=qe (HMgH.out.below HBHJ.out);have HTJ:=qe (HTH.out.below HBHJ.out);have HWM:=qe (Z7 wF.heap.size ⟨hi,rs,op,b3,b4,b5,b6,b7,b8,rc⟩ qs an au ad (by have:=HNQ.out.1;omega) (by have:=HNQ.out.2.1;omega) (by have:=HNQ.out.2.2.1;omega) (by have:=HNQ.out.2.2.2;omega) _ tga tca tgu tcu tgd tcd _ _ _ _ wJ (HTQ.out.below HBHJ.out) (HTA.out.below HBHJ.out) (HTU.out.below HBHJ.out) (HTD.out.below HBHJ.out) (HQ.out.below HBJ.out) (HA.out.below HBJ.out) (HU.out.below HBJ.out) (HD.out.below HBJ.out));clear hP2 hBJ hT1 hT2 HP HTK HRT HM2I HTH HTQ HTA HTU HTD HMM;clear y0 y1 y2 y3 y4 y5 y6 y7 y8 y9 y10 y11 y12 y13;go_upto_region 19 with fail
    go_cut [106] (λbv wx=>bv= .bool false/\Hid (Below wJ.heap.size wJ wx))
    case first=>
     as_aux_lemma=>
      have e0:(c2 != c2)=false:=by rw[Hy]
      obtain⟨x0,x1,x2,x3,x4,x5,x6,x7,x8,x9,x10,x11,x12,x13⟩:=HMHJ.out.facts;obtain⟨y0,y1,y2,y3,y4,y5,y6,y7,y8,y9,y10,y11,y12,y13⟩:=HM2J.out.facts;rcases HT1.out with⟨rfl,h1⟩|⟨A1,z1,rfl,h1,-⟩
      ·rcases HT2.out with⟨-,h2⟩|⟨A2,y2,h2,-,-⟩
       ·simp only[Value.pointer.injEq]at h1 h2;subst h1 h2;go_wp2_with fail;refine HWM.out.mono ?_;rintro e wK ⟨rfl,hBK⟩;go_wp2_with fail;go_meet;exact⟨rfl,qe hBK⟩
       ·cases h2
      ·rcases HT2.out with⟨h2,-⟩|⟨A2,y2,-,h2,-⟩
       ·cases h2
       ·simp only[Value.pointer.injEq]at h1 h2;subst h1 h2;go_wp2_with fail;refine HWM.out.mono ?_;rintro e wK ⟨rfl,hBK⟩;go_wp2_with fail;go_meet;exact⟨rfl,qe hBK⟩
    obtain⟨rfl,HBJK⟩:=hcut;obtain⟨wK,hwK⟩:=yM wc;subst hwK;have HBK:=qe (gm HBJ.out HBJK.out);have HB5K:=qe (gm HB5J.out HBJK.out);have HTK:=qe (HTJ.out.below HBJK.out);have HT1K:=qe (HT1.out.below HBJK.out);have HT2K:=qe (HT2.out.below HBJK.out);clear HT1 HT2 HTJ HM2J HMHJ HWM;go_wp2_with fail
    go_loopw [109] (λkv wr=>∃j:Nat,j<=tn/\kv= .int .i64 (j:Int)/\Hid (Below wK.heap.size wK wr)) (λkv _=>tn-(intOf kv).toNat)
    case atStart=>exact⟨0,gU _,rfl,qe (gJ _ _)⟩
    case round=>
     obtain⟨j,hj,rfl,HBS⟩:=hrel;obtain⟨wL,hwL⟩:=yM wr;subst hwL;by_cases hjl:j<tn
     ·as_aux_lemma=>
       have hji:(j:Int)<(tn:Int):=by omega
       have hjm:(j:Int)<(ms.length:Int):=by have:=HTN.out;have:=HTL.out;omega
       have ej:IntKind.i64.wrap ((j:Int)+1)=(j:Int)+1:=Hg _ (by have:=HML.out;have:=HTN.out;have:=HTL.out;omega);have hjT:j<T.length:=by have:=HTN.out;omega
       have hjM:j<ms.length:=by have:=HTL.out;omega
       have htr:=HTK.out.below HBS.out;have hok:=htr.ok _ (Ht hjT);obtain⟨og,oo,ocap,hv,c0,c1,c2,c3,c4,c5,c6,c7,c8,c9,c10,c11,c12,c13⟩:=htr.get hjT;simp only[gL]at hv;obtain⟨rfl,-,-⟩:=hv;obtain⟨t,ht⟩:=yM (T[j]);rw[<- ht]at hok c0 c1 c2 c3 c4 c5 c6 c7 c8 c9 c10 c11 c12 c13;have htm:t.m=ms[j]:=by
        have h1:(T.map (λt=>t.m))[j]? =ms[j]?:=by rw[HTE.out]
        rw[List.getElem?_map,List.getElem?_eq_getElem hjT,List.getElem?_eq_getElem hjM,<- ht]at h1
        simpa using h1
       obtain⟨ao,cap,hua,-,hm⟩:=HMS.out.below (gm HBK.out HBS.out);simp only[gL]at hua;obtain⟨rfl,-,-⟩:=hua;obtain⟨xb,xoff,xq,xa,xu,xd,rfl,-,hc,hin,hfit⟩:=hm j hjM;rw[<- htm]at hc hin hfit;obtain⟨M,tq,ga,ca,gu,cu,gd,cd⟩:=t;obtain⟨hd,kqs,kan,kau,kad⟩:=M;have d0:=hc 0 _ rfl;have d1:=hc 1 _ rfl;have d2:=hc 2 _ rfl;have d3:=hc 3 _ rfl;have d4:=hc 4 _ rfl;have d5:=hc 5 _ rfl;have d6:=hc 6 _ rfl;have d7:=hc 7 _ rfl;have d8:=hc 8 _ rfl;have d9:=hc 9 _ rfl;have d10:=hc 10 _ rfl;have d11:=hc 11 _ rfl;have d12:=hc 12 _ rfl;have d13:=hc 13 _ rfl;simp only[Nat.add_zero]at d0;obtain⟨okq,oka,oku,okd⟩:=hok;obtain⟨hqq,haa,huu,hdd⟩:=hin;have nq:=hfit.nq;have na:=hfit.na;have nu:=hfit.nu;have nd:=hfit.nd;simp only at c0 c1 c2 c3 c4 c5 c6 c7 c8 c9 c10 c11 c12 c13 okq oka oku okd hqq haa huu hdd nq na nu nd;obtain⟨tqa,tqc,rfl,-⟩:=qj okq;obtain⟨kqa,kqc,rfl,-⟩:=id hqq;obtain⟨kaa,kac,rfl,-⟩:=id haa;obtain⟨kua,kuc,rfl,-⟩:=id huu;obtain⟨kda,kdc,rfl,-⟩:=id hdd
       have CM:Hid (∀p,Calls Tryz.prog 14 #[yu hd (.slice tqa kqs.length tqc) (.slice (some ⟨ga,0,none⟩) kan.length ca) (.slice (some ⟨gu,0,none⟩) kau.length cu) (.slice (some ⟨gd,0,none⟩) kad.length cd),yu hd (.slice kqa kqs.length kqc) (.slice kaa kan.length kac) (.slice kua kau.length kuc) (.slice kda kad.length kdc)] (gw wL p) λe w''=>e= .returned (.bool true)/\∃p',w''=gw wL p'):=qe λp=>by
        have hG:=qD wL p;exact qY (Z7 wA.heap.size hd kqs kan kau kad (by omega) (by omega) (by omega) (by omega) _ ga ca gu cu gd cd _ _ _ _ (gw wL p) ((UF okq).below hG) (oka.below hG) (oku.below hG) (okd.below hG) (hqq.below hG) (haa.below hG) (huu.below hG) (hdd.below hG))
       have a0:=qh c0;have b0:=qh d0;have a1:=qh c1;have b1:=qh d1;have a2:=qh c2;have b2:=qh d2;have a3:=qh c3;have b3:=qh d3;have a4:=qh c4;have b4:=qh d4;have a5:=qh c5;have b5:=qh d5;have a6:=qh c6;have b6:=qh d6;have a7:=qh c7;have b7:=qh d7;have a8:=qh c8;have b8:=qh d8;have a9:=qh c9;have b9:=qh d9;have a10:=qh c10;have b10:=qh d10;have a11:=qh c11;have b11:=qh d11;have a12:=qh c12;have b12:=qh d12;have a13:=qh c13;have b13:=qh d13;have HJL:=qe hjl;clear ht htm hm hc hfit htr okq oka oku okd hqq haa huu hdd nq na nu nd hjT hjM hjl;go_upto_region 24 with fail;clear c0 d0 c1 d1 c2 d2 c3 d3 c4 d4 c5 d5 c6 d6 c7 d7 c8 d8 c9 d9 c10 d10 c11 d11 c12 d12 c13 d13;refine qp (by kernel_rfl) (by kernel_rfl) ?_
       repeat (with_reducible refine Hu (λK hK=>?_);go_simp;(try simp only[undef]);first | (with_reducible refine hK _ ?_;clear hK K) | (apply gW;refine⟨λ_=>?_,hK _ ?_⟩;(first | (go_at_call 14;with_reducible exact CM.out _));clear hK K) | (with_reducible refine⟨λ_ h=>(by cases h),?_⟩;with_reducible refine hK _ ?_;clear hK K))
       refine Hw ?_
       (try simp only[show Value.tuple #[]=undef from rfl])
       intro U hU;have hBU:Below wL.heap.size wL U:=by obtain⟨g,rfl⟩:=hU;exact qD _ g
       clear hU;have HBU:=qe (gm HBS.out hBU);clear hBU a0 b0 a1 b1 a2 b2 a3 b3 a4 b4 a5 b5 a6 b6 a7 b7 a8 b8 a9 b9 a10 b10 a11 b11 a12 b12 a13 b13;go_wp2_with fail
       go_roundw
       case rel=>exact⟨j+1,by have:=HJL.out;omega,by go_num,HBU⟩
       case measure=>have:=HJL.out;simp[intOf];omega
     ·as_aux_lemma=>
       obtain rfl:j=tn:=by omega
       have hji:¬((j:Int)<(j:Int)):=by omega
       have HBL:=qe (gm HBK.out HBS.out);have HB5L:=qe (gm HB5K.out HBS.out);have HZL:=qe (HZ5.out.below HB5L.out);have HYL:=qe (HY5.out.below HB5L.out);have HT1L:=qe (HT1K.out.below HBS.out);have HT2L:=qe (HT2K.out.below HBS.out);clear hjl hj;go_upto_region 27 with fail
       go_cut [134] (λbv wx=>bv= .bool false/\Hid (Below wL.heap.size wL wx))
       case first=>
        as_aux_lemma=>
         rcases HZL.out with⟨rfl,h1⟩|⟨A,z,rfl,h1,-,hzf⟩
         ·simp only[Value.pointer.injEq]at h1;subst h1
          go_quiet (fail)
          obtain⟨wM,hwM⟩:=yM (wL.drewN nq);rw[<- hwM];have HBM:=qe (show Below wL.heap.size wL wM from by rw[hwM];exact qL (gJ _ _) nq);clear hwM;go_wp2_with fail;go_meet;exact⟨rfl,HBM⟩
         ·rcases HYL.out with⟨h2,-⟩|⟨A',y,h2,h3,-,-,-,hry⟩
          ·cases h2
          ·obtain rfl:=Hr h2;simp only[Value.pointer.injEq]at h1 h3;subst h1 h3;obtain⟨gy,gcy,hyc,hyr⟩:=id hry;have HYC:=qe hyc;have HYR:=qe hyr;have HZF:=qe hzf
           have zk:=qe (show ∀X:World,Below wL.heap.size wL X->Below wL.heap.size wL X/\X.cell? ⟨y,1,none⟩=some (.slice (some ⟨gy,0,none⟩) A.l.length gcy)/\X.cell? ⟨y,0,none⟩=some (.string A.ap) from λX hX=>by
            have h1:=(hX.block y (zm HYC.out)).trans HYC.out;exact⟨hX,by rw[qg h1];rfl,by rw[qg h1];rfl⟩)
           have HRC:=qe (show ∀X:World,Below wL.heap.size wL X->Calls Tryz.prog 23 #[.pointer (some ⟨z,0,none⟩)] X λe w'=>jk A.l X e w' from λX hX=>
            kH _ z A.ap A.l HZF.out.small X (HZF.out.kept hX).v)
           have HSM:=qe (show ∀(X WX:World) (vA:Value),Below wL.heap.size wL WX->WX.ownsRow X.heap.size 80 5 vA A.l.length (qw A.l)->Calls Tryz.prog 22 #[vA,.slice (some ⟨gy,0,none⟩) A.l.length gcy] WX λe w'=>e= .returned (.bool true)/\Below WX.heap.size WX w' from λX WX vA hA hoA=>by
            have h1:=Qk A.l A.l (by have:=HZF.out.small;omega) vA (.slice (some ⟨gy,0,none⟩) A.l.length gcy) WX (qF hoA) (HYR.out.below hA);rw[gF rfl]at h1;exact h1)
           have HAX:=qe (show ∀X:World,Below wL.heap.size wL X->Calls Tryz.prog 24 #[.pointer (some ⟨z,0,none⟩)] X λe w'=>e= .returned (.string A.ap)/\Below X.heap.size X w' from λX hX=>by
            obtain⟨_,_,_,_,_,_,_,h2,_⟩:=(HZF.out.kept hX).v.parts;refine(uH z A.ap _ _ _ X h2).mono ?_;rintro e w' ⟨rfl,rfl⟩;exact⟨rfl,gJ _ _⟩)
           clear hzf hry hyc hyr h2;obtain⟨-,q0,q1⟩:=zk.out wL (gJ _ _)
           go_region_held3 (λX=>Below wL.heap.size wL X/\X.cell? ⟨y,1,none⟩=some (.slice (some ⟨gy,0,none⟩) A.l.length gcy)/\X.cell? ⟨y,0,none⟩=some (.string A.ap))
            (first | assumption | exact zk.out _ (gJ _ _).drew | (go_split_ands;exact zk.out _ (by assumption)))
            (first
             | (go_at_call 24;(with_reducible refine(HAX.out _ (by go_split_ands;assumption)).mono ?_);rintro e wX ⟨rfl,hbX⟩;go_split_ands;have uX:=Below.trans (B:=wL.heap.size) (a:=wL) (by assumption) (hbX.mono (Below.size (by assumption))))
             | (go_at_call 23;(with_reducible refine(HRC.out _ (by go_split_ands;assumption)).mono ?_);rintro e wQ ⟨vA,rfl,hbA,hoA⟩;go_split_ands;have uY:=Below.trans (B:=wL.heap.size) (a:=wL) (by assumption) (hbA.mono (Below.size (by assumption))))
             | (go_at_call 22;(with_reducible refine(HSM.out _ _ _ (by assumption) hoA).mono ?_);rintro e wB ⟨rfl,hbB⟩;have VN:=Below.trans (B:=wL.heap.size) (a:=wL) uY (hbB.mono (Below.size uY))))
           all_goals
            go_wp2_with fail;go_meet;exact⟨rfl,qe VN⟩
       obtain⟨rfl,HBLN⟩:=hcut;obtain⟨wN,hwN⟩:=yM wc;subst hwN;have HBN:=qe (gm HBL.out HBLN.out);have HT1N:=qe (HT1L.out.below HBLN.out);have HT2N:=qe (HT2L.out.below HBLN.out);rcases HT1N.out with⟨rfl,h1⟩|⟨A,z,rfl,h1,hzf⟩
       ·simp only[Value.pointer.injEq]at h1;subst h1;go_upto_region 29 with fail
        go_quiet (fail)
        obtain⟨wO,hwO⟩:=yM (wN.drewN nq);rw[<- hwO];have HBO:=qe (show Below w.heap.size w wO from by rw[hwO];exact qL HBN.out nq);clear hwO;go_wp2_with fail;go_ret;exact⟨rfl,HBO.out⟩
       ·rcases HT2N.out with⟨h2,-⟩|⟨A',y,h2,h3,hry⟩
        ·cases h2
        ·obtain rfl:=Hr h2;simp only[Value.pointer.injEq]at h1 h3;subst h1 h3;obtain⟨gy,gcy,hyc,hyr⟩:=id hry;have HYC:=qe hyc;have HYR:=qe hyr;have HZF:=qe hzf
         have zk:=qe (show ∀X:World,Below wN.heap.size wN X->Below wN.heap.size wN X/\X.cell? ⟨y,1,none⟩=some (.slice (some ⟨gy,0,none⟩) A.l.length gcy)/\X.cell? ⟨y,0,none⟩=some (.string A.ap) from λX hX=>by
          have h1:=(hX.block y (zm HYC.out)).trans HYC.out;exact⟨hX,by rw[qg h1];rfl,by rw[qg h1];rfl⟩)
         have HRC:=qe (show ∀X:World,Below wN.heap.size wN X->Calls Tryz.prog 23 #[.pointer (some ⟨z,0,none⟩)] X λe w'=>jk A.l X e w' from λX hX=>
          kH _ z A.ap A.l HZF.out.small X (HZF.out.kept hX).v)
         have HSM:=qe (show ∀(X WX:World) (vA:Value),Below wN.heap.size wN WX->WX.ownsRow X.heap.size 80 5 vA A.l.length (qw A.l)->Calls Tryz.prog 22 #[vA,.slice (some ⟨gy,0,none⟩) A.l.length gcy] WX λe w'=>e= .returned (.bool true)/\Below WX.heap.size WX w' from λX WX vA hA hoA=>by
          have h1:=Qk A.l A.l (by have:=HZF.out.small;omega) vA (.slice (some ⟨gy,0,none⟩) A.l.length gcy) WX (qF hoA) (HYR.out.below hA);rw[gF rfl]at h1;exact h1)
         have HAX:=qe (show ∀X:World,Below wN.heap.size wN X->Calls Tryz.prog 24 #[.pointer (some ⟨z,0,none⟩)] X λe w'=>e= .returned (.string A.ap)/\Below X.heap.size X w' from λX hX=>by
          obtain⟨_,_,_,_,_,_,_,h2,_⟩:=(HZF.out.kept hX).v.parts;refine(uH z A.ap _ _ _ X h2).mono ?_;rintro e w' ⟨rfl,rfl⟩;exact⟨rfl,gJ _ _⟩)
         clear hzf hry hyc hyr h2;have qs:(A.ap.toList == A.ap.toList)=true:=str_eq.2 rfl;obtain⟨-,q0,q1⟩:=zk.out wN (gJ _ _);go_upto_region 29 with fail
         go_region_held3 (λX=>Below wN.heap.size wN X/\X.cell? ⟨y,1,none⟩=some (.slice (some ⟨gy,0,none⟩) A.l.length gcy)/\X.cell? ⟨y,0,none⟩=some (.string A.ap))
          (first | assumption | exact zk.out _ (gJ _ _).drew | (go_split_ands;exact zk.out _ (by assumption)))
          (first
           | (go_at_call 24;(with_reducible refine(HAX.out _ (by go_split_ands;assumption)).mono ?_);rintro e wX ⟨rfl,hbX⟩;go_split_ands;have uX:=Below.trans (B:=wN.heap.size) (a:=wN) (by assumption) (hbX.mono (Below.size (by assumption))))
           | (go_at_call 23;(with_reducible refine(HRC.out _ (by go_split_ands;assumption)).mono ?_);rintro e wQ ⟨vA,rfl,hbA,hoA⟩;go_split_ands;have uY:=Below.trans (B:=wN.heap.size) (a:=wN) (by assumption) (hbA.mono (Below.size (by assumption))))
           | (go_at_call 22;(with_reducible refine(HSM.out _ _ _ (by assumption) hoA).mono ?_);rintro e wB ⟨rfl,hbB⟩;have VN:=Below.trans (B:=wN.heap.size) (a:=wN) uY (hbB.mono (Below.size uY))))
         all_goals
          go_wp2_with fail;go_ret;exact⟨rfl,HBN.out.trans (VN.mono HBN.out.size)⟩
end Go.Proofs.YtpcmilhjpmlbpaaGreatDoor
