import Derived.Test.YtpcmilhjpmlbpaaGreatDoorQTrW
import Derived.Test.YtpcmilhjpmlbpaaGreatDoorQTrF
import Derived.Test.YtpcmilhjpmlbpaaGreatDoorQTrH
import Derived.Deep.DeepMust
import Derived.Deep.RegionWith
import Derived.Deep.CutBlock
import Derived.Deep.RegionHeld3
set_option maxRecDepth 100000
set_option maxHeartbeats 8000000
namespace Go.Proofs.YtpcmilhjpmlbpaaGreatDoor
open Go.RowKit Go.Shelf nm od
def yn (v:Value):Prop:=v= .slice none 0 0\/∃(ad:Addr) (n cap:Nat),v= .slice (some ad) n cap
theorem zx.any {v:Value}(h:zx v):yn v:=by
 rcases h with h | ⟨b,off,n,cap,h⟩
 ·exact .inl h
 ·exact .inr ⟨_,_,_,h⟩
theorem ZE {w:World}{ad:Addr}{cap n:Nat}{l:List Rec}(h:ql w (.slice (some ad) n cap) l):n=l.length/\∀j u,(qw l)[j]? =some u->w.cell? (ad.add j)=some u:=by
 cases l with
 | nil=>
   obtain⟨a,c,hv,_⟩:=h;simp only[gL]at hv;exact⟨hv.2.1,λj u hu=>by cases hu⟩
 | cons x t=>
   have h2:=h;obtain⟨a,c,hv,_,hr⟩:=h2;simp only[gL]at hv;obtain⟨b,off,e,_⟩:=hr 0 (by simp);have e2:=hv.1.trans e;simp only[gM]at e2;subst e2;obtain⟨h3,h4⟩:=YR h;exact⟨h3,λj u hu=>by rw[Addr.add_lit];exact h4 j u hu⟩
theorem qns_cellsA {w:World}{ad:Addr}{cap n:Nat}{l:List Qn}(h:yw w (.slice (some ad) n cap) l):n=l.length/\∀j u,(xg l)[j]? =some u->w.cell? (ad.add j)=some u:=by
 cases l with
 | nil=>
   obtain⟨a,c,hv,_⟩:=h;simp only[gL]at hv;exact⟨hv.2.1,λj u hu=>by cases hu⟩
 | cons x t=>
   have h2:=h;obtain⟨a,c,hv,_,hr⟩:=h2;simp only[gL]at hv;obtain⟨b,off,e,_⟩:=hr 0 (by simp);have e2:=hv.1.trans e;simp only[gM]at e2;subst e2;obtain⟨h3,h4⟩:=qns_cells h;exact⟨h3,λj u hu=>by rw[Addr.add_lit];exact h4 j u hu⟩
theorem Vp (l:List Rec)(hl:l.length*56<=1099511627776)(v:Value)(hf:yn v)(w:World)(hrv:ql w v l):
 Calls Tryz.prog 33 #[v] w λe w'=>RTwin l w e w':=by
 have hln1:l.length<=1000000000000:=by omega
 obtain⟨Jz,JB,Km,Qq,QI⟩:=info_parts kT;have Ve:=qe JB;have Vd:=qe Km;have ZK:=qe Qq;have ZJ:=qe QI;clear JB Km Qq QI;rcases hf with rfl | ⟨ad,n,cap,rfl⟩
 ·have h0:l= []:=by
   obtain⟨a,c,hv,_⟩:=hrv;simp only[gL]at hv;exact Hm hv.2.1.symm
  subst h0;have hnil:World.ownsRow w w.heap.size 80 5 (.slice none 0 0) 0 []:=gZ _ _ _ _;have HNIL:=qe hnil;clear hnil;clear hrv
  go_enter Tryz.func33,Tryz.ntmps33
  go_wp2_with fail;refine(Yh _).mono ?_;rintro e ws1 ⟨rfl,hBs1⟩;have HRF:=qe (gJ w.heap.size w);have HNR:=qe (gI w.heap.size);have HBs:=qe (Below.trans (B:=w.heap.size) (a:=w) HRF.out (hBs1.mono HNR.out));have hzs:=HBs.out.size;have HOs:=qe (ownsRow_below HNIL.out hBs1);clear hBs1;go_wp2_with fail;refine(Yh _).mono ?_;rintro e ws2 ⟨rfl,hBs2⟩;have HBs2:=qe (HBs.out.trans (hBs2.mono hzs));have hzs2:=HBs2.out.size;have HOs2:=qe (ownsRow_below HOs.out hBs2);clear hBs2;have HBs3:=qe (HBs2.out.alloc hzs2 (.cells (qw [zH,zH]).toArray 80));have HOs3:=qe (qm HOs2.out λb hb=>Below.heap_alloc ws2 (.cells (qw [zH,zH]).toArray 80) b (HOs2.out.lt b hb).2);have xN:=qe (ve ws2 (qw [zH,zH]) 80);have P1:=qe (show 0+2<=maxLen from by unfold maxLen;omega);have P2:=qe (show(0+2)*56<=140737488355328 from by omega);have P3:=qe (show w.heap.size<=(ws2.alloc (.cells (qw [zH,zH]).toArray 80)).heap.size from by simp;omega);have ONE2:=qe (xe [zH,zH]);go_wp2_with (at_builtin;refine qW _ rfl _ _ 31 rfl w.heap.size 80 Jz (.agg #[.string ⟨#[]⟩,.int .i64 0,.int .i64 0,.int .i64 0,.string ⟨#[]⟩]) 5 56 Tryz.underlying31 Ve.out Vd.out ZK.out ZJ.out rfl (by decide) _ _ _ rfl HOs3.out ⟨ws2.heap.size,0,none⟩ 2 2 (qw [zH,zH]) rfl rfl xN.out ONE2.out P1.out P2.out P3.out ?_);intro v' w10 zz jg jM;have yt:=qe (HBs3.out.grown jg P3.out (λj hj=>(HOs3.out.lt j hj).1));obtain⟨g,cap,rfl,hcg,_⟩:=zz.form (by omega);obtain⟨_,cap',hv,hcap⟩:=qj zz;simp only[gL,true_and]at hv;obtain⟨rfl,rfl⟩:=hv;have hcap2:0<=cap:=by omega
  have zV:=qe zz;clear zz jg jM hcg;go_wp2_with fail;go_ret;refine⟨g,cap,rfl,yt.out,?_,hcap⟩;have h:=zV.out;rw[KX];exact h
 ·obtain⟨hn,hcell⟩:=ZE hrv;subst hn;have hone:=xe l;have hln:=zM l;have hnl:World.ownsRow w w.heap.size 80 5 (.slice none 0 0) 0 []:=gZ _ _ _ _;have hnews:∀j u,(qw l)[j]? =some u->w.cell? (ad.add j)=some u:=hcell;have p1:0+l.length<=maxLen:=by unfold maxLen;omega
  have p2:(0+l.length)*56<=140737488355328:=by omega
  have HONE:=qe hone;have HLN:=qe hln;have HNL:=qe hnl;have xN:=qe hnews;have P1:=qe p1;have P2:=qe p2;have HCELL:=qe hcell;have HRV:=qe hrv;clear hone hln hnl hnews p1 p2 hcell hrv
  go_enter Tryz.func33,Tryz.ntmps33
  go_wp2_with (at_builtin;refine qW _ rfl _ _ 31 rfl w.heap.size 80 Jz (.agg #[.string ⟨#[]⟩,.int .i64 0,.int .i64 0,.int .i64 0,.string ⟨#[]⟩]) 5 56 Tryz.underlying31 Ve.out Vd.out ZK.out ZJ.out rfl (by decide) _ _ _ rfl HNL.out ad l.length cap (qw l) rfl HLN.out xN.out HONE.out P1.out P2.out (gI _) ?_);intro v0 w0 hown0 hg0 hnn0;have HB0:=qe ((gJ w.heap.size w).grown hg0 (gI _) (λj hj=>by cases hj));have hz0:=HB0.out.size;have HOWN0:=qe (show w0.ownsRow w.heap.size 80 5 v0 l.length (qw l) from by simpa using hown0);clear hown0 hg0 hnn0 P1 P2 xN;go_wp2_with fail;refine(Yh _).mono ?_;rintro e ws1 ⟨rfl,hBs1⟩;have HBs:=qe (Below.trans (B:=w.heap.size) (a:=w) HB0.out (hBs1.mono hz0));have hzs:=HBs.out.size;have HOs:=qe (ownsRow_below HOWN0.out hBs1);clear hBs1;go_wp2_with fail;refine(Yh _).mono ?_;rintro e ws2 ⟨rfl,hBs2⟩;have HBs2:=qe (HBs.out.trans (hBs2.mono hzs));have hzs2:=HBs2.out.size;have HOs2:=qe (ownsRow_below HOs.out hBs2);clear hBs2;have HBs3:=qe (HBs2.out.alloc hzs2 (.cells (qw [zH,zH]).toArray 80));have HOs3:=qe (qm HOs2.out λb hb=>Below.heap_alloc ws2 (.cells (qw [zH,zH]).toArray 80) b (HOs2.out.lt b hb).2);have xN:=qe (ve ws2 (qw [zH,zH]) 80);have P1:=qe (show l.length+2<=maxLen from by unfold maxLen;omega);have P2:=qe (show(l.length+2)*56<=140737488355328 from by omega);have P3:=qe (show w.heap.size<=(ws2.alloc (.cells (qw [zH,zH]).toArray 80)).heap.size from by simp;omega);have ONE2:=qe (xe [zH,zH]);go_wp2_with (at_builtin;refine qW _ rfl _ _ 31 rfl w.heap.size 80 Jz (.agg #[.string ⟨#[]⟩,.int .i64 0,.int .i64 0,.int .i64 0,.string ⟨#[]⟩]) 5 56 Tryz.underlying31 Ve.out Vd.out ZK.out ZJ.out rfl (by decide) _ _ _ rfl HOs3.out ⟨ws2.heap.size,0,none⟩ 2 2 (qw [zH,zH]) rfl rfl xN.out ONE2.out P1.out P2.out P3.out ?_);intro v' w10 zz jg jM;have yt:=qe (HBs3.out.grown jg P3.out (λj hj=>(HOs3.out.lt j hj).1));obtain⟨g,cap,rfl,hcg,_⟩:=zz.form (by omega);obtain⟨_,cap',hv,hcap⟩:=qj zz;simp only[gL,true_and]at hv;obtain⟨rfl,rfl⟩:=hv;have hcap2:l.length<=cap:=by omega
  have zV:=qe zz;clear zz jg jM hcg;go_wp2_with fail;go_ret;refine⟨g,cap,rfl,yt.out,?_,hcap⟩;have h:=zV.out;rw[KX];exact h
theorem Yd (h:Hd)(qs:List Qn)(an au ad:List Rec)(hq:qs.length*32<=1099511627776)(ha:an.length*56<=1099511627776)(hu:au.length*56<=1099511627776)(hd:ad.length*56<=1099511627776)(q a u d:Value)
 (fq:yn q) (fa:yn a) (fu:yn u) (fd:yn d) (w:World) (rq:yw w q qs) (ra:ql w a an) (ru:ql w u au) (rd:ql w d ad):
 Calls Tryz.prog 10 #[yu h q a u d] w λe w'=>RTwinM h qs an au ad w e w':=by
 obtain⟨i0_q,hi_q,hz_q,hz1_q,hz2_q⟩:=info_parts info_qn;have HI_Q:=qe hi_q;have HZ_Q:=qe hz_q;have HZ1_Q:=qe hz1_q;have HZ2_Q:=qe hz2_q;clear hi_q hz_q hz1_q hz2_q;obtain⟨w1,hw1⟩:=yM (w.alloc (.cells (yT h q a u d).toArray 33));obtain⟨w2,hw2⟩:=yM (w1.alloc (.cells (yT hd0 (.slice none 0 0) (.slice none 0 0) (.slice none 0 0) (.slice none 0 0)).toArray 33));obtain⟨hB1,hs1,hm1⟩:=zG hw1;obtain⟨hB2,hs2,hm2⟩:=zG hw2;have hma:=hm1.below hB2;have hB:=gm hB1 hB2;rw[hs1]at hm2 hs2;have hws:w2.heap.size=w.heap.size+2:=by omega
 clear hm1 hs1 hs2 hB1 hB2;obtain⟨x0,x1,x2,x3,x4,x5,x6,x7,x8,x9,x10,x11,x12,x13⟩:=hma.facts;have y10:=hma.free 10;have hq2:=rq.below hB;have HW1:=qe hw1;have HW2:=qe hw2;have HB:=qe hB;have HMA:=qe hma;have HM2:=qe hm2;have RQ:=qe rq;have RA:=qe ra;have RU:=qe ru;have RD:=qe rd;have HQ2:=qe hq2;have HWS:=qe hws;clear hw1 hw2 hB hma hm2 rq ra ru rd hq2 hws
 go_enter Tryz.func10,Tryz.ntmps10
 go_upto_region 1 with fail;rw[<- HW1.out,<- HW2.out]
 go_cut [5] (λ_ wx=>∃q',wx.ownsRow w.heap.size 78 3 q' qs.length (xg qs)/\qi wx w.heap.size h q' a u d/\qi wx (w.heap.size+1) hd0 (.slice none 0 0) (.slice none 0 0) (.slice none 0 0) (.slice none 0 0)/\q'.ownBlock≠some w.heap.size/\q'.ownBlock≠some (w.heap.size+1)/\Below w.heap.size w wx)
 case first=>
  rcases fq with rfl | ⟨ad,n,cap,rfl⟩
  ·have h0:qs= []:=by
    obtain⟨_,_,hv,_⟩:=RQ.out;simp only[gL]at hv;exact Hm hv.2.1.symm
   subst h0;go_wp2_with fail;go_meet;exact⟨_,gZ _ _ _ _,HMA.out.set10 _,(gP _ _ _ _ (by simp)).trans HM2.out,by simp[Value.ownBlock],by simp[Value.ownBlock],HB.out.setCell (gI _) _⟩
  ·obtain⟨hn,hcell⟩:=qns_cellsA HQ2.out;subst hn;have HONE:=qe (qns_one qs);have HLN:=qe (qnsC_len qs);have HNL:=qe (gZ w2 w2.heap.size 78 3);have xN:=qe (λ(j:Nat) (u:Value) (hu:(xg qs)[j]? =some u)=>(hcell j u hu:w2.cell? (ad.add j)=some u));have P1:=qe (show 0+qs.length<=maxLen from by unfold maxLen;omega);have P2:=qe (show(0+qs.length)*32<=140737488355328 from by omega);clear hcell;go_wp2_with (at_builtin;refine qW _ rfl _ _ 30 rfl w2.heap.size 78 i0_q (.agg #[.string ⟨#[]⟩,.int .i64 0,.int .i64 0]) 3 32 Tryz.underlying30 HI_Q.out HZ_Q.out HZ1_Q.out HZ2_Q.out rfl (by decide) _ _ _ rfl HNL.out ad qs.length cap (xg qs) rfl HLN.out xN.out HONE.out P1.out P2.out (gI _) ?_);intro v0 w3 hown3 hg3 hnn3;have hB3:Below w2.heap.size w2 w3:=(gJ _ w2).grown hg3 (gI _) (λj hj=>by cases hj);have hm3:=HMA.out.below hB3;have hr3:=HM2.out.below hB3;have hown3':w3.ownsRow w2.heap.size 78 3 v0 qs.length (xg qs):=by simpa using hown3
   have hv1:v0.ownBlock≠some w.heap.size:=λe=>by have:=(hown3'.lt _ e).1;have:=HWS.out;omega
   have hv2:v0.ownBlock≠some (w.heap.size+1):=λe=>by have:=(hown3'.lt _ e).1;have:=HWS.out;omega
   have hBe:=gm HB.out hB3;obtain⟨a3,c3,rfl,_⟩:=qj hown3';clear x0 x1 x2 x3 x4 x5 x6 x7 x8 x9 x10 x11 x12 x13 y10;obtain⟨_,_,_,_,_,_,_,_,_,_,x10,_,_,_⟩:=hm3.facts;have y10:=hm3.free 10;have HOWN3:=qe hown3;have HG3:=qe hg3;have HNN3:=qe hnn3;have HB3:=qe hB3;have HM3:=qe hm3;have HR3:=qe hr3;have HOWN3':=qe hown3';have HV1:=qe hv1;have HV2:=qe hv2;have HBE:=qe hBe;clear hown3 hg3 hnn3 hB3 hm3 hr3 hown3' hv1 hv2 hBe;go_wp2_with fail;go_meet;exact⟨_,qm (qK HOWN3'.out (by have:=HWS.out;omega)) (λb hb=>gP _ _ _ _ (λe=>HV1.out (by rw[hb,e]))),HM3.out.set10 _,(gP _ _ _ _ (by simp)).trans HR3.out,HV1.out,HV2.out,HBE.out.setCell (gI _) _⟩
 case rest=>
 obtain⟨q',hqr,hmc,hmr,hq1,hq2,hBc⟩:=hcut;clear x0 x1 x2 x3 x4 x5 x6 x7 x8 x9 x10 x11 x12 x13 y10;obtain⟨w3,hw3⟩:=yM wc;subst hw3;obtain⟨_,_,_,_,_,_,_,_,_,_,_,x11,x12,x13⟩:=hmc.facts;have hra:=RA.out.below hBc;have hru:=RU.out.below hBc;have hrd:=RD.out.below hBc;have HTA:=qe (λ(X:World) (hX:Below w3.heap.size w3 X)=>Vp an ha a fa X (hra.below hX));have HTU:=qe (λ(X:World) (hX:Below w3.heap.size w3 X)=>Vp au hu u fu X (hru.below hX));have HTD:=qe (λ(X:World) (hX:Below w3.heap.size w3 X)=>Vp ad hd d fd X (hrd.below hX));have HMK:=qe (λ(X:World) (hX:Below w3.heap.size w3 X)=>hmc.below hX);have hb1:Below w3.heap.size w3 w3.drew:=(gJ _ _).drew;have hb2:=Below.size hb1;obtain⟨mb,hmb⟩:=yM w.heap.size;have hml:mb<w3.heap.size:=by rw[hmb];exact hmc.lt
 have hmr2:qi w3 (mb+1) hd0 (.slice none 0 0) (.slice none 0 0) (.slice none 0 0) (.slice none 0 0):=by rw[hmb];exact hmr
 have hml2:mb+1<w3.heap.size:=hmr2.lt;rw[<- hmb]at x11 x12 x13 HMK;have HRT:=qe (λX (hX:Below w3.heap.size w3 X)=>hX);clear hra hru hrd hmr;have HQR:=qe hqr;have HMC:=qe hmc;have HMR2:=qe hmr2;have HQ1:=qe hq1;have HQ2:=qe hq2;have HBC:=qe hBc;have HMB:=qe hmb;clear hqr hmc hmr2 hq1 hq2 hBc hmb;go_upto_region 2 with fail;rw[<- HMB.out]
 go_cut [9] (λ_ wx=>∃ga ca gu cu gd cd,w3.grownBy wx (some mb)/\qi wx mb h q' (.slice (some ⟨ga,0,none⟩) an.length ca) (.slice (some ⟨gu,0,none⟩) au.length cu) (.slice (some ⟨gd,0,none⟩) ad.length cd)/\
  zZ wx w3.heap.size ga ca an/\zZ wx w3.heap.size gu cu au/\zZ wx w3.heap.size gd cd ad)
 case first=>
  go_region_with (first
   | (go_at_call 33;(with_reducible refine(HTA.out _ hb1).mono ?_);rintro e wA ⟨ga,ca,rfl,hbA,hoA,hcA⟩;have uY:Below w3.heap.size w3 wA:=hb1.trans (hbA.mono hb2);obtain⟨_,_,_,_,_,_,_,_,_,_,_,a11,a12,a13⟩:=(HMK.out _ uY).facts)
   | (go_at_call 33;(with_reducible refine(HTU.out _ uY).mono ?_);rintro e wU ⟨gu,cu,rfl,hbU,hoU,hcU⟩;have hbU2:Below w3.heap.size w3 wU:=gm uY hbU;obtain⟨_,_,_,_,_,_,_,_,_,_,_,b11,b12,b13⟩:=(HMK.out _ hbU2).facts)
   | (go_at_call 33;(with_reducible refine(HTD.out _ hbU2).mono ?_);rintro e wD ⟨gd,cd,rfl,hbD,hoD,hcD⟩;have hbD2:Below w3.heap.size w3 wD:=gm hbU2 hbD;obtain⟨_,_,_,_,_,_,_,_,_,_,_,c11,c12,c13⟩:=(HMK.out _ hbD2).facts;have f11:=(HMK.out _ hbD2).free 11;have f12:=(HMK.out _ hbD2).free 12;have f13:=(HMK.out _ hbD2).free 13))
  all_goals (go_wp2_with fail;go_meet;exact twins_done hml hbA hbU hbD (HMK.out _ hbD2) hbD2 ⟨hoA,hcA⟩ ⟨hoU,hcU⟩ ⟨hoD,hcD⟩)
 case rest=>
 obtain⟨ga,ca,gu,cu,gd,cd,hg,hm,ta,tu,td⟩:=hcut;clear x11 x12 x13 hb1 hb2;have hmr:qi wc (mb+1) hd0 (.slice none 0 0) (.slice none 0 0) (.slice none 0 0) (.slice none 0 0):=(hg.block _ hml2 (by simp)).trans HMR2.out;obtain⟨x0,x1,x2,x3,x4,x5,x6,x7,x8,x9,x10,x11,x12,x13⟩:=hm.facts;obtain⟨y0,y1,y2,y3,y4,y5,y6,y7,y8,y9,y10,y11,y12,y13⟩:=hmr.facts;have f0:=hmr.free 0;have f1:=hmr.free 1;have f2:=hmr.free 2;have f3:=hmr.free 3;have f4:=hmr.free 4;have f5:=hmr.free 5;have f6:=hmr.free 6;have f7:=hmr.free 7;have f8:=hmr.free 8;have f9:=hmr.free 9;have f10:=hmr.free 10;have f11:=hmr.free 11;have f12:=hmr.free 12;have f13:=hmr.free 13;obtain⟨qa,qc,rfl,-⟩:=qj HQR.out;obtain⟨hst,hgst⟩:=yg hmr h (.slice qa qs.length qc) (.slice (some ⟨ga,0,none⟩) an.length ca) (.slice (some ⟨gu,0,none⟩) au.length cu) (.slice (some ⟨gd,0,none⟩) ad.length cd);have Uc:∀b,b<wc.heap.size->b≠mb+1->_:=λb hb hne=>hgst.block b hb (by simpa using hne);have e1:=ta.lt.1;have e2:=tu.lt.1;have e3:=td.lt.1;have hBe:Below w.heap.size w _:=(HBC.out.grown hg (HBC.out.size) (λj hj=>by simp only[gM]at hj;have:=HMB.out;omega)).grown hgst (by have:=HBC.out.size;have:=hg.size;omega) (λj hj=>by simp only[gM]at hj;have:=HMB.out;omega);have hqe:=qm HQR.out (λb hb=>(Uc b (gN (HQR.out.lt b hb).2 hg.size) (λe=>HQ2.out (by rw[hb,e,HMB.out]))).trans (hg.block b (HQR.out.lt b hb).2 (λe=>HQ1.out (by rw[hb,<- HMB.out];exact e))));have hpost:RTwinM h qs an au ad w (.returned (yu h (.slice qa qs.length qc) (.slice (some ⟨ga,0,none⟩) an.length ca) (.slice (some ⟨gu,0,none⟩) au.length cu) (.slice (some ⟨gd,0,none⟩) ad.length cd))) _:=
  ⟨_,ga,ca,gu,cu,gd,cd,rfl,hBe,hqe,(ta.QR (Uc _ ta.lt.2 (by omega))).QK HBC.out.size,(tu.QR (Uc _ tu.lt.2 (by omega))).QK HBC.out.size,(td.QR (Uc _ td.lt.2 (by omega))).QK HBC.out.size⟩
 clear Uc hBe hqe hgst;have HST:=qe hst;have HG:=qe hg;have HM:=qe hm;have TA:=qe ta;have TU:=qe tu;have TD:=qe td;have HMR:=qe hmr;have yX:=qe hpost;clear hg hm ta tu td hmr hpost;clear hst;go_wp2_with fail;exact msg_ret rfl rfl rfl HST.out yX.out
theorem kC {w:World}{base:Nat}{v:Value}{n:Nat}{xs:List Value}(h:w.ownsRow base 80 5 v n xs):yn v:=by
 rcases h.2 with⟨h0,_⟩|⟨g,cap,_,hv,_⟩
 ·exact .inl h0
 ·exact .inr ⟨_,n,cap,hv⟩
theorem zO {ops:Array Oper}{rest:List Oper}{o:Oper}{a:Act}{Q:Exit->Act->World->Prop}{w:World}(hgd:o.guard=none)(s x:Operand)
 (ho:o.op= .call { callee:=.builtin .append,args:=#[s,x],argTypes:=#[31,31]})
 (base:Nat) (v:Value) (n:Nat) (xs:List Value) (hs:a.eval s=v) (hown:w.ownsRow base 80 5 v n xs)
 (u:Value) (hf:yn u) (l:List Rec) (hu:ql w u l) (hx:a.eval x=u) (hl:n+l.length<=1000000000) (hbase:base<=w.heap.size)
 (h:∀v' w',w'.ownsRow base 80 5 v' (n+l.length) (xs ++ qw l)->w.grownBy w' v.ownBlock->(∀b,v'.ownBlock=some b->v.ownBlock=some b\/w.heap.size<=b)->wpList Tryz.prog ops Q rest (a.put o.dst v') w'):wpList Tryz.prog ops Q (o :: rest) a w:=by
 obtain⟨i,hi,hz,hz1,hz2⟩:=info_parts kT;rcases hf with rfl | ⟨ad,m,cap,rfl⟩
 ·have h0:l= []:=by
   obtain⟨a',c,hv,_⟩:=hu;simp only[gL]at hv;exact Hm hv.2.1.symm
  subst h0;have hr:=run_append_owned_none (P:=Tryz.prog) w base 31 o.type 80 i 5 Tryz.underlying31 hi v n xs hown;refine wpList_plain hgd λK hK=>?_;unfold Oper.wp execOp;simp only[ho,resolve,invoke,builtin,Sem.run_bind,Sem.run_pure,Result.andThen_ok,List.map_toArray,List.map_cons,List.map_nil,hs,hx,hr];refine hK _ _ (h v w (by simpa[qw] using hown) ⟨rfl,rfl,rfl,gI _,λ_ _ _=>rfl⟩ λb hb=>.inl hb)
 ·obtain⟨hn,hc⟩:=ZE hu;subst hn
  exact qW w hgd s x 31 ho base 80 i (.agg #[.string ⟨#[]⟩,.int .i64 0,.int .i64 0,.int .i64 0,.string ⟨#[]⟩]) 5 56 Tryz.underlying31 hi hz hz1 hz2 rfl (by decide) v n xs hs hown ad l.length cap (qw l) hx (zM l) hc (xe l)
   (by unfold maxLen;omega) (by omega) hbase h
theorem jX {w:World}{base:Nat}{v:Value}{n m:Nat}{l k:List Rec}(hn:n=l.length)(hm:m=k.length)(h:w.ownsRow base 80 5 v (n+m) (qw l ++ qw k)):w.ownsRow base 80 5 v (l ++ k).length (qw (l ++ k)):=by
 subst hn;subst hm;rw[gK];rw[show qw (l ++ k)=qw l ++ qw k from by unfold qw;exact List.flatMap_append ..];exact h
theorem kL {w w1:World}{base:Nat}(r:Rec)(e:w1=w.alloc (.cells (recC r).toArray 80))(hb:base<=w.heap.size):w1.ownsRow base 80 5 (.slice (some ⟨w.heap.size,0,none⟩) ([r]:List Rec).length 1) ([r]:List Rec).length (qw [r]):=by
 subst e;exact World.ownsRow_lit w _ 1 hb (by unfold maxLen;omega) rfl
theorem twhole_any (tz z:Nat)(Z:tr.Zn)(hv:tr.Ok Z)(w:World)(hz:jB w tz z Z.ap Z.l):
 Calls Tryz.prog 67 #[qX z] w λe w'=>jk (tr.yK Z) w e w':=by
 obtain⟨r,hr⟩:=yM (tr.qZ Z);have hwl:tr.yK Z=([r] ++ tr.q9 Z.l) ++ [r]:=by rw[hr];rfl
 have hsm:(tr.q9 Z.l).length<=2000:=gQ (List.length_filter_le _ _) hz.small;rw[hwl];have HZ:=qe hz;have HV:=qe hv;have HR:=qe hr;have HSM:=qe hsm;clear hz hv hr hwl hsm;have hS:=YO tz z Z HV.out w HZ.out;rw[<- HR.out]at hS;have HS:=qe hS;clear hS
 go_enter Tryz.func67,Tryz.ntmps67
 go_wp2_with fail;refine HS.out.mono ?_;rintro e w1 ⟨rfl,hB1⟩;have HB1:=qe hB1;clear hB1;obtain⟨w2,hw⟩:=yM (w1.alloc (.cells (recC r).toArray 80));obtain⟨hBn,-,-⟩:=zf w1 w2 r hw;obtain⟨gw2,hg⟩:=yM w1.heap.size;have hon:=kL (base:=w.heap.size) r hw HB1.out.size;rw[<- hg]at hon;have HWw2:=qe hw;have HGw2:=qe hg;have HOw2:=qe hon;have HBNw2:=qe hBn;have HBw2:=qe (gm HB1.out hBn);clear hw hg hon hBn;go_wp2_with fail;rw[<- HWw2.out,<- HGw2.out];refine(KZ tz z Z w2 (HZ.out.kept HBw2.out)).mono ?_;rintro e w3 ⟨v3,rfl,hB3,hown3⟩;obtain⟨a3,c3,rfl,-⟩:=qj hown3;have HB3:=qe (gm HBw2.out hB3);have HO3:=qe (ownsRow_below HOw2.out hB3);have HN3:=qe hown3;clear hB3 hown3;go_wp2_with (at_builtin;refine zO rfl _ _ rfl w.heap.size _ _ _ rfl HO3.out _ (kC HN3.out) _ (qF HN3.out) rfl (by have:=HSM.out;simp only[gT];omega) HB3.out.size ?_);intro v4 w4 uk hg4 hn4;have HB4:=qe (HB3.out.grown hg4 HB3.out.size (λj hj=>(HO3.out.lt j hj).1));have HO4:=qe (jX rfl rfl uk);clear uk hg4 hn4;have hS4:=YO tz z Z HV.out w4 (HZ.out.kept HB4.out);rw[<- HR.out]at hS4;have HS4:=qe hS4;clear hS4;go_wp2_with fail;refine HS4.out.mono ?_;rintro e w5 ⟨rfl,hB5⟩;have HB5:=qe (gm HB4.out hB5);have HO5:=qe (ownsRow_below HO4.out hB5);clear hB5;obtain⟨w6,hw⟩:=yM (w5.alloc (.cells (recC r).toArray 80));obtain⟨hBn,-,-⟩:=zf w5 w6 r hw;obtain⟨gw6,hg⟩:=yM w5.heap.size;have hon:=kL (base:=w.heap.size) r hw HB5.out.size;rw[<- hg]at hon;have HWw6:=qe hw;have HGw6:=qe hg;have HOw6:=qe hon;have HBNw6:=qe hBn;have HBw6:=qe (gm HB5.out hBn);clear hw hg hon hBn;have HO6:=qe (ownsRow_below HO5.out HBNw6.out);go_wp2_with (at_builtin;rw[<- HWw6.out,<- HGw6.out];refine zO rfl _ _ rfl w.heap.size _ _ _ rfl HO6.out _ (kC HOw6.out) _ (qF HOw6.out) rfl (by have:=HSM.out;simp only[gK,gT];omega) HBw6.out.size ?_);intro v7 w7 hown7 hg7 hn7;have HB7:=qe (HBw6.out.grown hg7 HBw6.out.size (λj hj=>(HO6.out.lt j hj).1));have HO7:=qe (jX rfl rfl hown7);clear hown7 hg7 hn7;go_wp2_with fail;go_ret;exact⟨_,rfl,HB7.out,HO7.out⟩
namespace tr
theorem chk_size {t:Int}{d:ByteArray}(h:dt.jh t d=0):d.size<=65535:=by
 unfold dt.jh at h
 split at h
 ·split at h
  ·cases h
  ·omega
 ·cases h
theorem Z8 {v:Int}(h1:0<=v)(h2:v<=4294967295):(Lit.int .i64 v).wf=true:=by
 simp[Lit.wf,IntKind.min,IntKind.max,IntKind.signed,IntKind.bits];omega
theorem right_ok {x:Rec}(h:wi.qP x=true):YH x:=by
 unfold wi.qP at h;simp only[gX]at h;obtain⟨⟨⟨⟨h1,h2⟩,h3⟩,h4⟩,h5⟩:=h;have i2:=wi.in_t h2;have i3:=wi.in_t h3;have i4:=wi.in_t h4;have hs:=qV h1;refine⟨by unfold maxLen;omega,Z8 i2.1 (by omega),Z8 i3.1 (by omega),Z8 i4.1 (by omega),?_⟩;have hd:x.data.size<=65535:=by
  split at h5
  ·exact of_decide_eq_true h5
  ·rw[Bool.or_eq_true]at h5;rcases h5 with h | h
   ·unfold wi.jR at h;simp only[gX,H7]at h;omega
   ·exact chk_size (of_decide_eq_true h)
 unfold maxLen;omega
theorem valid_ok {qf:ByteArray}{L:List Rec}(hv:zn.Valid qf L):∀r∈L,YH r:=λr hr=>by
 have h:=hv.each r hr;have ht:=zn.type_of h.2.1;have h2:=h.2.1;unfold zn.jT at h2;simp only[Bool.not_eq_false',gX,H7]at h2;have hs:=qV h.1;have hd:=chk_size h2.2;exact⟨by unfold maxLen;omega,Z8 (by omega) (by omega),Z8 (by omega) (by omega),Z8 (by omega) (by omega),by unfold maxLen;omega⟩
theorem XR {Z:Zn}(hv:Ok Z):∀r∈q9 Z.l,YH r:=λr hr=>valid_ok hv r (List.mem_filter.1 hr).1
theorem uA {Z:Zn}(hv:Ok Z):(q9 Z.l).length<=2000:=gQ (List.length_filter_le _ _) hv.small
theorem UN {l m:List Rec}(h:l.length<=2000):(Zd l m).length<=2000:=gQ (List.length_filter_le _ _) h
theorem piece_len {a b:Zn}(ha:Ok a)(hb:Ok b):(YT a b).length<=4002:=by
 have h1:=UN (m:=q9 b.l) (uA ha);have h2:=UN (m:=q9 a.l) (uA hb);unfold YT;simp only[gK,gT];omega
theorem steps_len {H:List Zn}{k:Nat}:∀n,(∀i,i<n->Ok (zh H (k+i))/\Ok (zh H (k+i+1)))->(jb H k n).length<=n*4002
 | 0,_=>by simp[jb]
 | n+1,h=>by
   rw[Jk,gK];have h1:=steps_len n λi hi=>h i (by omega);have h2:=piece_len (h n (by omega)).1 (h n (by omega)).2;omega
end tr
theorem steps_any (base h:Nat)(zs:List Nat)(H:List tr.Zn)(h8:zs.length<=8)(k:Nat)(hk:k<zs.length)(w:World)(hh:xE w base h zs)(hz:KI w zs H):
 Calls Tryz.prog 70 #[.pointer (some ⟨h,0,none⟩),.int .i64 (k:Int)] w λe w'=>jk (tr.yY H k) w e w':=by
 obtain⟨n,hn⟩:=yM zs.length;obtain⟨n1,hn1⟩:=yM (n-1);have hlen:=hz.1
 have hOK:∀i (hi:i<zs.length),tr.Ok (tr.zh H i)/\∃top,jB w top zs[i] (tr.zh H i).ap (tr.zh H i).l:=λi hi=>by
  have hiH:i<H.length:=by omega
  rw[tr.Qd hiH];exact hz.2 i hi hiH
 have hlast:tr.qR H=tr.zh H n1:=by unfold tr.qR;congr 1;omega
 obtain⟨r,hr⟩:=yM (tr.qZ (tr.zh H n1));have hsl:tr.yY H k=([r] ++ tr.jb H k (n1-k)) ++ [r]:=by unfold tr.yY;rw[hlast,<- hr];congr 3;omega
 rw[hsl];obtain⟨z0,hz0⟩:=yM (zs[n1]'(by omega))
 have HZN:=qe (show ∀X,Below w.heap.size w X->Calls Tryz.prog 31 #[.pointer (some ⟨h,0,none⟩)] X λe w'=>e= .returned (qX z0)/\Below X.heap.size X w' from λX hX=>by
  have h1:=Q3 base h zs (by omega) (by omega) X (hh.below hX);have e:zs[zs.length-1]'(by omega)=z0:=by rw[hz0];congr 1;omega
  rw[e]at h1;exact h1)
 have HSO:=qe (show ∀X,Below w.heap.size w X->Calls Tryz.prog 48 #[qX z0] X λe w'=>e= .returned (yf r)/\Below X.heap.size X w' from λX hX=>by
  obtain⟨h1,tz,h2⟩:=hOK n1 (by omega);rw[hr];exact YO tz z0 _ h1 X (by rw[hz0];exact h2.kept hX))
 have HOK:=qe hOK;have HH:=qe hh;have HN:=qe hn;have HN1:=qe hn1;have H8:=qe h8;have HK:=qe hk;have HSL:=qe (show ∀m,k+m<=n1->(tr.jb H k m).length<=40000 from λm hm=>gQ (tr.steps_len m λi hi=>⟨(hOK _ (by omega)).1,(hOK _ (by omega)).1⟩) (by omega));clear hh hz hOK hlast hr hsl hz0 hn hn1 h8 hk hlen
 go_enter Tryz.func70,Tryz.ntmps70
 go_wp2_with fail;refine(HZN.out w (gJ _ _)).mono ?_;rintro e w1 ⟨rfl,hB1⟩;have HB1:=qe hB1;clear hB1;go_wp2_with fail;refine(HSO.out w1 HB1.out).mono ?_;rintro e w2 ⟨rfl,hB2⟩;have HB2:=qe (gm HB1.out hB2);clear hB2;obtain⟨w3,hw⟩:=yM (w2.alloc (.cells (recC r).toArray 80));obtain⟨hBn,-,-⟩:=zf w2 w3 r hw;obtain⟨gw3,hg⟩:=yM w2.heap.size;have hon:=kL (base:=w.heap.size) r hw HB2.out.size;rw[<- hg]at hon;have HWw3:=qe hw;have HGw3:=qe hg;have HOw3:=qe hon;have HBNw3:=qe hBn;have HBw3:=qe (gm HB2.out hBn);clear hw hg hon hBn;go_upto_region 2 with fail;rw[<- HWw3.out,<- HGw3.out]
 go_loopw [1,5] (λkv av wr=>∃j:Nat,k<=j/\j<=n1/\kv= .int .i64 (j:Int)/\Hid (wr.ownsRow w.heap.size 80 5 av ([r] ++ tr.jb H k (j-k)).length (qw ([r] ++ tr.jb H k (j-k))))/\Hid (Below w.heap.size w wr)) (λkv _ _=>n1-(intOf kv).toNat)
 case atStart=>
  refine⟨k,gI _,by have h1:=HK.out;have h2:=HN.out;have h3:=HN1.out;omega,rfl,qe ?_,HBw3⟩;rw[Nat.sub_self,show tr.jb H k 0= [] from rfl,List.append_nil];exact HOw3.out
 case round=>
  obtain⟨j,hkj,hjn,rfl,HO,HB⟩:=hrel;obtain⟨w4,hw4⟩:=yM wr;subst hw4;obtain⟨P,hP⟩:=yM ([r] ++ tr.jb H k (j-k));rw[<- hP]at HO;have HPL:=qe (show P.length<=40001 by rw[hP,gK];have:=HSL.out (j-k) (by omega);simp;omega);have HP:=qe hP;clear hP;obtain⟨va,vc,rfl,-⟩:=qj HO.out;obtain⟨g,cap,hgl,hcap,c0,cz⟩:=(HH.out.below HB.out).cells;rw[<- HN.out]at c0;have HHN:=HN.out;have HHN1:=HN1.out;obtain⟨j1,hj1⟩:=yM (j+1);have e1:(j:Int)+1=(j1:Int):=by omega
  have e2:IntKind.i64.wrap (j1:Int)=(j1:Int):=Hg _ (by have:=H8.out;omega);by_cases hlt:j<n1
  ·have i1:(j:Int)<(n:Int):=by omega
   have i2:(j1:Int)<(n:Int):=by omega
   have i3:j<n:=by omega
   have i4:j1<n:=by omega
   obtain⟨za,hza⟩:=yM (zs[j]'(by omega));obtain⟨zb,hzb⟩:=yM (zs[j1]'(by omega));have ca:=cz j (by omega);have cb:=cz j1 (by omega);rw[<- hza]at ca;rw[<- hzb]at cb;obtain⟨A,hA⟩:=yM (tr.zh H j);obtain⟨B,hB⟩:=yM (tr.zh H j1);obtain⟨ra,hra⟩:=yM (tr.qZ A);obtain⟨rb,hrb⟩:=yM (tr.qZ B);obtain⟨ok1,ta,zf1⟩:=HOK.out j (by omega);obtain⟨ok2,tb,zf2⟩:=HOK.out j1 (by omega);rw[<- hA,<- hza]at zf1;rw[<- hA]at ok1;rw[<- hB,<- hzb]at zf2;rw[<- hB]at ok2;have HSA:=qe (show ∀X,Below w.heap.size w X->Calls Tryz.prog 48 #[qX za] X λe w'=>e= .returned (yf ra)/\Below X.heap.size X w' from λX hX=>by rw[hra];exact YO ta za A ok1 X (zf1.kept hX));have HSB:=qe (show ∀X,Below w.heap.size w X->Calls Tryz.prog 48 #[qX zb] X λe w'=>e= .returned (yf rb)/\Below X.heap.size X w' from λX hX=>by rw[hrb];exact YO tb zb B ok2 X (zf2.kept hX));have HTA:=qe (show ∀X,Below w.heap.size w X->Calls Tryz.prog 104 #[qX za] X λe w'=>jk (tr.q9 A.l) X e w' from λX hX=>KZ ta za A X (zf1.kept hX));have HTB:=qe (show ∀X,Below w.heap.size w X->Calls Tryz.prog 104 #[qX zb] X λe w'=>jk (tr.q9 B.l) X e w' from λX hX=>KZ tb zb B X (zf2.kept hX));have HO1:=qe ok1;have HO2:=qe ok2;have HM1:=qe (tr.UN (m:=tr.q9 B.l) (tr.uA ok1));have HM2:=qe (tr.UN (m:=tr.q9 A.l) (tr.uA ok2));have HEND:=qe (show [r] ++ tr.jb H k (j1-k)=(((P ++ [ra]) ++ tr.Zd (tr.q9 A.l) (tr.q9 B.l)) ++ [rb]) ++ tr.Zd (tr.q9 B.l) (tr.q9 A.l) by
    rw[show j1-k=(j-k)+1 by omega,tr.Jk,show k+(j-k)=j by omega,<- hj1,<- hA,<- hB,HP.out,hra,hrb];unfold tr.YT;simp only[List.append_assoc])
   have HJ1:=qe hj1;have HLT:=qe hlt;have HKJ:=qe hkj;have kc0:=qh c0;have kca:=qh ca;have kcb:=qh cb;have HC0:=qe c0;clear cz hza hzb hA hB hra hrb ok1 ok2 zf1 zf2 ca cb hj1 HHN HHN1 hlt hkj hjn;go_upto_region 4 with fail;clear c0;refine qp (by kernel_rfl) (by kernel_rfl) ?_
   repeat (with_reducible refine Hu (λK hK=>?_);go_simp;(try simp only[undef]);first | (with_reducible refine hK _ ?_;clear hK K))
   refine Hw ?_
   (try simp only[show Value.tuple #[]=undef from rfl])
   intro U hU;have hBU:Below w4.heap.size w4 U:=by obtain⟨g,rfl⟩:=hU;exact qD _ g
   clear hU;have HBU:=qe (gm HB.out hBU);have HOU:=qe (ownsRow_below HO.out hBU);clear hBU kc0 kca kcb i1 i2 i3 i4 hgl hcap;go_wp2_with fail;refine(HSA.out _ HBU.out).mono ?_;rintro e w5 ⟨rfl,hBn⟩;have HBw5:=qe (gm HBU.out hBn);have HOw5:=qe (ownsRow_below HOU.out hBn);clear hBn;obtain⟨w6,hw⟩:=yM (w5.alloc (.cells (recC ra).toArray 80));obtain⟨hBn,-,-⟩:=zf w5 w6 ra hw;obtain⟨gw6,hg⟩:=yM w5.heap.size;have hon:=kL (base:=w.heap.size) ra hw HBw5.out.size;rw[<- hg]at hon;have HWw6:=qe hw;have HGw6:=qe hg;have HOw6:=qe hon;have HBNw6:=qe hBn;have HBw6:=qe (gm HBw5.out hBn);clear hw hg hon hBn;have HPw6:=qe (ownsRow_below HOw5.out HBNw6.out);go_wp2_with (at_builtin;rw[<- HWw6.out,<- HGw6.out];refine zO rfl _ _ rfl w.heap.size _ _ _ rfl HPw6.out _ (kC HOw6.out) _ (qF HOw6.out) rfl (by have:=HPL.out;simp only[gT];omega) HBw6.out.size ?_);intro vw7 w7 hown hg hn;have HBw7:=qe (HBw6.out.grown hg HBw6.out.size (λj hj=>(HPw6.out.lt j hj).1));have hap:=jX rfl rfl hown;obtain⟨R7,hR⟩:=yM (P ++ [ra]);rw[<- hR]at hap;have HLR7:=qe (show R7.length<=40002 by rw[hR,gK,gT];have:=HPL.out;omega);have HOw7:=qe hap;have HRR7:=qe hR;obtain⟨aw7,cw7,rfl,-⟩:=qj HOw7.out;clear hown hg hn hap hR;go_wp2_with fail;refine(HTA.out _ HBw7.out).mono ?_;rintro e w8 ⟨vw8,rfl,hBn,hown⟩;have HBw8:=qe (gm HBw7.out hBn);have HOw8:=qe (ownsRow_below HOw7.out hBn);have HNw8:=qe hown;have HDw8:=qe hBn;obtain⟨aw8,cw8,rfl,-⟩:=qj hown;clear hBn hown;go_wp2_with fail;refine(HTB.out _ HBw8.out).mono ?_;rintro e w9 ⟨vw9,rfl,hBn,hown⟩;have HBw9:=qe (gm HBw8.out hBn);have HOw9:=qe (ownsRow_below HOw8.out hBn);have HNw9:=qe hown;have HDw9:=qe hBn;obtain⟨aw9,cw9,rfl,-⟩:=qj hown;clear hBn hown;have HNa:=qe (ownsRow_below HNw8.out HDw9.out);go_wp2_with fail;refine(VX _ _ (tr.uA HO1.out) (tr.uA HO2.out) (tr.XR HO1.out) (tr.XR HO2.out) _ _ w9 (J6 HNa.out) (qF HNa.out) (qF HNw9.out)).mono ?_;rintro e w10 ⟨vw10,rfl,hBn,hown⟩;have HBw10:=qe (gm HBw9.out hBn);have HOw10:=qe (ownsRow_below HOw9.out hBn);have HNw10:=qe hown;have HDw10:=qe hBn;obtain⟨aw10,cw10,rfl,-⟩:=qj hown;clear hBn hown;go_wp2_with (at_builtin;refine zO rfl _ _ rfl w.heap.size _ _ _ rfl HOw10.out _ (kC HNw10.out) _ (qF HNw10.out) rfl (by have:=HLR7.out;have:=HM1.out;omega) HBw10.out.size ?_);intro vw11 w11 hown hg hn;have HBw11:=qe (HBw10.out.grown hg HBw10.out.size (λj hj=>(HOw10.out.lt j hj).1));have hap:=jX rfl rfl hown;obtain⟨R11,hR⟩:=yM (R7 ++ tr.Zd (tr.q9 A.l) (tr.q9 B.l));rw[<- hR]at hap;have HLR11:=qe (show R11.length<=42002 by rw[hR,gK];have:=HLR7.out;have:=HM1.out;omega);have HOw11:=qe hap;have HRR11:=qe hR;obtain⟨aw11,cw11,rfl,-⟩:=qj HOw11.out;clear hown hg hn hap hR;go_upto_region 6 with fail;go_wp2_with fail;refine(HSB.out _ HBw11.out).mono ?_;rintro e w12 ⟨rfl,hBn⟩;have HBw12:=qe (gm HBw11.out hBn);have HOw12:=qe (ownsRow_below HOw11.out hBn);clear hBn;obtain⟨w13,hw⟩:=yM (w12.alloc (.cells (recC rb).toArray 80));obtain⟨hBn,-,-⟩:=zf w12 w13 rb hw;obtain⟨gw13,hg⟩:=yM w12.heap.size;have hon:=kL (base:=w.heap.size) rb hw HBw12.out.size;rw[<- hg]at hon;have HWw13:=qe hw;have HGw13:=qe hg;have HOw13:=qe hon;have HBNw13:=qe hBn;have HBw13:=qe (gm HBw12.out hBn);clear hw hg hon hBn;have HPw13:=qe (ownsRow_below HOw12.out HBNw13.out);go_wp2_with (at_builtin;rw[<- HWw13.out,<- HGw13.out];refine zO rfl _ _ rfl w.heap.size _ _ _ rfl HPw13.out _ (kC HOw13.out) _ (qF HOw13.out) rfl (by have:=HLR11.out;simp only[gT];omega) HBw13.out.size ?_);intro vw14 w14 hown hg hn;have HBw14:=qe (HBw13.out.grown hg HBw13.out.size (λj hj=>(HPw13.out.lt j hj).1));have hap:=jX rfl rfl hown;obtain⟨R14,hR⟩:=yM (R11 ++ [rb]);rw[<- hR]at hap;have HLR14:=qe (show R14.length<=42003 by rw[hR,gK,gT];have:=HLR11.out;omega);have HOw14:=qe hap;have HRR14:=qe hR;obtain⟨aw14,cw14,rfl,-⟩:=qj HOw14.out;clear hown hg hn hap hR;go_wp2_with fail;refine(HTB.out _ HBw14.out).mono ?_;rintro e w15 ⟨vw15,rfl,hBn,hown⟩;have HBw15:=qe (gm HBw14.out hBn);have HOw15:=qe (ownsRow_below HOw14.out hBn);have HNw15:=qe hown;have HDw15:=qe hBn;obtain⟨aw15,cw15,rfl,-⟩:=qj hown;clear hBn hown;go_wp2_with fail;refine(HTA.out _ HBw15.out).mono ?_;rintro e w16 ⟨vw16,rfl,hBn,hown⟩;have HBw16:=qe (gm HBw15.out hBn);have HOw16:=qe (ownsRow_below HOw15.out hBn);have HNw16:=qe hown;have HDw16:=qe hBn;obtain⟨aw16,cw16,rfl,-⟩:=qj hown;clear hBn hown;have HNb:=qe (ownsRow_below HNw15.out HDw16.out);go_wp2_with fail;refine(VX _ _ (tr.uA HO2.out) (tr.uA HO1.out) (tr.XR HO2.out) (tr.XR HO1.out) _ _ w16 (J6 HNb.out) (qF HNb.out) (qF HNw16.out)).mono ?_;rintro e w17 ⟨vw17,rfl,hBn,hown⟩;have HBw17:=qe (gm HBw16.out hBn);have HOw17:=qe (ownsRow_below HOw16.out hBn);have HNw17:=qe hown;have HDw17:=qe hBn;obtain⟨aw17,cw17,rfl,-⟩:=qj hown;clear hBn hown;go_wp2_with (at_builtin;refine zO rfl _ _ rfl w.heap.size _ _ _ rfl HOw17.out _ (kC HNw17.out) _ (qF HNw17.out) rfl (by have:=HLR14.out;have:=HM2.out;omega) HBw17.out.size ?_);intro vw18 w18 hown hg hn;have HBw18:=qe (HBw17.out.grown hg HBw17.out.size (λj hj=>(HOw17.out.lt j hj).1));have hap:=jX rfl rfl hown;obtain⟨R18,hR⟩:=yM (R14 ++ tr.Zd (tr.q9 B.l) (tr.q9 A.l));rw[<- hR]at hap;have HLR18:=qe (show R18.length<=44003 by rw[hR,gK];have:=HLR14.out;have:=HM2.out;omega);have HOw18:=qe hap;have HRR18:=qe hR;obtain⟨aw18,cw18,rfl,-⟩:=qj HOw18.out;clear hown hg hn hap hR;go_wp2_with fail;have HE2:=qe (show [r] ++ tr.jb H k (j1-k)=R18 by rw[HEND.out,HRR18.out,HRR14.out,HRR11.out,HRR7.out])
   go_roundw
   case rel=>
    refine⟨j1,?_,?_,?_,qe ?_,HBw18⟩
    ·have:=HKJ.out;have:=HJ1.out;omega
    ·have:=HLT.out;have:=HJ1.out;omega
    ·rfl
    ·rw[HE2.out];exact HOw18.out
   case measure=>have:=HLT.out;have:=HJ1.out;simp[intOf];omega
  ·obtain rfl:j=n1:=by omega
   have i2:¬((j1:Int)<(n:Int)):=by omega
   have d2:decide ((j1:Int)<(n:Int))=false:=gp i2;have HSZ:=qe (show ∀X,Below w.heap.size w X->Calls Tryz.prog 31 #[.pointer (some ⟨h,0,none⟩)] X λe w'=>e= .returned (qX z0)/\Below X.heap.size X w' from HZN.out);have Vf:=qe (show([r] ++ tr.jb H k (j-k)) ++ [r]=P ++ [r] by rw[HP.out]);clear cz hj1 HHN HHN1 hlt hkj hjn hgl hcap;go_wp2_with fail;clear c0;refine(HSZ.out w4 HB.out).mono ?_;rintro e w5 ⟨rfl,hB5⟩;have HB5:=qe (gm HB.out hB5);have HO5:=qe (ownsRow_below HO.out hB5);clear hB5;go_wp2_with fail;refine(HSO.out _ HB5.out).mono ?_;rintro e w6 ⟨rfl,hBn⟩;have HBw6:=qe (gm HB5.out hBn);have HOw6:=qe (ownsRow_below HO5.out hBn);clear hBn;obtain⟨w7,hw⟩:=yM (w6.alloc (.cells (recC r).toArray 80));obtain⟨hBn,-,-⟩:=zf w6 w7 r hw;obtain⟨gw7,hg⟩:=yM w6.heap.size;have hon:=kL (base:=w.heap.size) r hw HBw6.out.size;rw[<- hg]at hon;have HWw7:=qe hw;have HGw7:=qe hg;have HOw7:=qe hon;have HBNw7:=qe hBn;have HBw7:=qe (gm HBw6.out hBn);clear hw hg hon hBn;have HPw7:=qe (ownsRow_below HOw6.out HBNw7.out);go_wp2_with (at_builtin;rw[<- HWw7.out,<- HGw7.out];refine zO rfl _ _ rfl w.heap.size _ _ _ rfl HPw7.out _ (kC HOw7.out) _ (qF HOw7.out) rfl (by have:=HPL.out;simp only[gT];omega) HBw7.out.size ?_);intro vw8 w8 hown hg hn;have HBw8:=qe (HBw7.out.grown hg HBw7.out.size (λj hj=>(HPw7.out.lt j hj).1));have hap:=jX rfl rfl hown;obtain⟨R8,hR⟩:=yM (P ++ [r]);rw[<- hR]at hap;have HLR8:=qe (show R8.length<=40002 by rw[hR,gK,gT];have:=HPL.out;omega);have HOw8:=qe hap;have HRR8:=qe hR;obtain⟨aw8,cw8,rfl,-⟩:=qj HOw8.out;clear hown hg hn hap hR;go_wp2_with fail;go_ret;refine⟨.slice aw8 R8.length cw8,rfl,HBw8.out,?_⟩;show w8.ownsRow w.heap.size 80 5 (.slice aw8 R8.length cw8) (([r] ++ tr.jb H k (j-k)) ++ [r]).length (qw (([r] ++ tr.jb H k (j-k)) ++ [r]));rw[Vf.out,<- HRR8.out];exact HOw8.out
theorem Yg {ops:Array Oper}{o:Oper}{a:Act}{w:World}{K:Act->World->Prop}{Q:Exit->Act->World->Prop}{E:Prop}(hgd:o.guard=none)(s x:Operand)
 (ho:o.op= .call { callee:=.builtin .append,args:=#[s,x],argTypes:=#[31,31]})
 (base:Nat) (v:Value) (n:Nat) (xs:List Value) (hs:a.eval s=v) (hown:w.ownsRow base 80 5 v n xs)
 (u:Value) (hf:yn u) (l:List Rec) (hu:ql w u l) (hx:a.eval x=u) (hl:n+l.length<=1000000000) (hbase:base<=w.heap.size)
 (h:∀v' w',w'.ownsRow base 80 5 v' (n+l.length) (xs ++ qw l)->w.grownBy w' v.ownBlock->(∀b,v'.ownBlock=some b->v.ownBlock=some b\/w.heap.size<=b)->K (a.put o.dst v') w'):
 if Region.wanted o (yielded ops a.tmps)=true then Oper.wp Tryz.prog o a w K Q else E:=by
 obtain⟨i,hi,hz,hz1,hz2⟩:=info_parts kT;rcases hf with rfl | ⟨ad,m,cap,rfl⟩
 ·have h0:l= []:=by
   obtain⟨a',c,hv,_⟩:=hu;simp only[gL]at hv;exact Hm hv.2.1.symm
  subst h0;have hr:=run_append_owned_none (P:=Tryz.prog) w base 31 o.type 80 i 5 Tryz.underlying31 hi v n xs hown;have hw:Region.wanted o (yielded ops a.tmps)=true:=by simp[Region.wanted,hgd]
  rw[if_pos hw];unfold Oper.wp;simp[execOp,ho,resolve,invoke,builtin,hs,hx,hr,Result.andThen];exact h v w (by simpa[qw] using hown) ⟨rfl,rfl,rfl,gI _,λ_ _ _=>rfl⟩ λb hb=>.inl hb
 ·obtain⟨hn,hc⟩:=ZE hu;subst hn
  exact Xw hgd s x 31 ho base 80 i (.agg #[.string ⟨#[]⟩,.int .i64 0,.int .i64 0,.int .i64 0,.string ⟨#[]⟩]) 5 56 Tryz.underlying31 hi hz hz1 hz2 rfl (by decide) v n xs hs hown ad l.length cap (qw l) hx (zM l) hc (xe l)
   (by unfold maxLen;omega) (by omega) hbase h
end Go.Proofs.YtpcmilhjpmlbpaaGreatDoor
