import Derived.Test.YtdjjemajfphjaaaGreatQRzE
import Derived.Test.YtdjjemajfphjaaaGreatQUpdL
import Derived.Test.YtdjjemajfphjaaaGreatQOpenU
import Derived.Test.YtdjjemajfphjaaaGreatQMsgF
import Derived.Deep.DeepMust
import Derived.Deep.RegionWith
set_option maxRecDepth 100000
set_option maxHeartbeats 8000000
namespace Go.Proofs.YtdjjemajfphjaaaGreat
open Go.RowKit Go.Shelf nm od
def uD (v:Value):Prop:=v= .slice none 0 0∨∃(ad:Addr) (n cap:Nat),v= .slice (some ad) n cap
theorem yS.any {v:Value}(h:yS v):uD v:=by
 rcases h with h | ⟨b,off,n,cap,h⟩
 ·exact .inl h
 ·exact .inr ⟨_,_,_,h⟩
theorem recs_cellsA {w:World}{ad:Addr}{cap n:Nat}{l:List Rec}(h:qy w (.slice (some ad) n cap) l):n=l.length∧∀j u,(qG l)[j]? =some u→w.cell? (ad.add j)=some u:=by
 cases l with
 | nil=>
   obtain⟨a,c,hv,_⟩:=h
   simp only[Value.slice.injEq]at hv
   exact⟨hv.2.1,fun j u hu=>by cases hu⟩
 | cons x t=>
   have h2:=h
   obtain⟨a,c,hv,_,hr⟩:=h2
   simp only[Value.slice.injEq]at hv
   obtain⟨b,off,e,_⟩:=hr 0 (by simp)
   have e2:=hv.1.trans e
   simp only[Option.some.injEq]at e2
   subst e2
   obtain⟨h3,h4⟩:=Ye h
   exact⟨h3,fun j u hu=>by rw[Addr.add_lit];exact h4 j u hu⟩
theorem qns_cellsA {w:World}{ad:Addr}{cap n:Nat}{l:List Qn}(h:kJ w (.slice (some ad) n cap) l):n=l.length∧∀j u,(YW l)[j]? =some u→w.cell? (ad.add j)=some u:=by
 cases l with
 | nil=>
   obtain⟨a,c,hv,_⟩:=h
   simp only[Value.slice.injEq]at hv
   exact⟨hv.2.1,fun j u hu=>by cases hu⟩
 | cons x t=>
   have h2:=h
   obtain⟨a,c,hv,_,hr⟩:=h2
   simp only[Value.slice.injEq]at hv
   obtain⟨b,off,e,_⟩:=hr 0 (by simp)
   have e2:=hv.1.trans e
   simp only[Option.some.injEq]at e2
   subst e2
   obtain⟨h3,h4⟩:=qns_cells h
   exact⟨h3,fun j u hu=>by rw[Addr.add_lit];exact h4 j u hu⟩
theorem UF (l:List Rec)(hl:l.length*56≤1099511627776)(v:Value)(hf:uD v)(w:World)(hrv:qy w v l):
 Calls Tryz.prog 23 #[v] w fun e w'=>RTwin l w e w':=by
 have hln1:l.length≤1000000000000:=by omega
 obtain⟨kX,uz,uy,jd,jc⟩:=info_parts jM
 have kZ:=Lib.hid uz;have kY:=Lib.hid uy;have yK:=Lib.hid jd;have yJ:=Lib.hid jc
 clear uz uy jd jc
 rcases hf with rfl | ⟨ad,n,cap,rfl⟩
 ·have h0:l= []:=by
   obtain⟨a,c,hv,_⟩:=hrv
   simp only[Value.slice.injEq]at hv
   exact List.eq_nil_of_length_eq_zero hv.2.1.symm
  subst h0
  have hnil:World.ownsRow w w.heap.size 51 5 (.slice none 0 0) 0 []:=World.ownsRow_nil _ _ _ _
  have HNIL:=Lib.hid hnil
  clear hnil
  clear hrv
  go_enter Tryz.func23,Tryz.ntmps23
  go_wp2_with fail
  refine(ZA _).mono ?_
  rintro e ws1 ⟨rfl,hBs1⟩
  have HRF:=Lib.hid (Below.refl w.heap.size w)
  have HNR:=Lib.hid (Nat.le_refl w.heap.size)
  have HBs:=Lib.hid (Below.trans (B:=w.heap.size) (a:=w) HRF.out (hBs1.mono HNR.out))
  have hzs:=HBs.out.size
  have HOs:=Lib.hid (ownsRow_below HNIL.out hBs1)
  clear hBs1
  go_wp2_with fail
  refine(ZA _).mono ?_
  rintro e ws2 ⟨rfl,hBs2⟩
  have HBs2:=Lib.hid (HBs.out.trans (hBs2.mono hzs))
  have hzs2:=HBs2.out.size
  have HOs2:=Lib.hid (ownsRow_below HOs.out hBs2)
  clear hBs2
  have HBs3:=Lib.hid (HBs2.out.alloc hzs2 (.cells (qG [zG,zG]).toArray 51))
  have HOs3:=Lib.hid (qi HOs2.out fun b hb=>Below.heap_alloc ws2 (.cells (qG [zG,zG]).toArray 51) b (HOs2.out.lt b hb).2)
  have Z6:=Lib.hid (yA ws2 (qG [zG,zG]) 51)
  have P1:=Lib.hid (show 0+2≤maxLen from by unfold maxLen;omega)
  have P2:=Lib.hid (show(0+2)*56≤140737488355328 from by omega)
  have P3:=Lib.hid (show w.heap.size≤(ws2.alloc (.cells (qG [zG,zG]).toArray 51)).heap.size from by simp;omega)
  have ONE2:=Lib.hid (YT [zG,zG])
  go_wp2_with (at_builtin;refine qF _ rfl _ _ 22 rfl w.heap.size 51 kX (.agg #[.string ⟨#[]⟩,.int .i64 0,.int .i64 0,.int .i64 0,.string ⟨#[]⟩]) 5 56 Tryz.underlying22 kZ.out kY.out yK.out yJ.out rfl (by decide) _ _ _ rfl HOs3.out ⟨ws2.heap.size,0,none⟩ 2 2 (qG [zG,zG]) rfl rfl Z6.out ONE2.out P1.out P2.out P3.out ?_)
  intro v' w10 qI q9 zi
  have zw:=Lib.hid (HBs3.out.grown q9 P3.out (fun j hj=>(HOs3.out.lt j hj).1))
  obtain⟨g,cap,rfl,hcg,_⟩:=qI.form (by omega)
  obtain⟨_,cap',hv,hcap⟩:=qC qI
  simp only[Value.slice.injEq,true_and]at hv
  obtain⟨rfl,rfl⟩:=hv
  have hcap2:0≤cap:=by omega
  have qQ:=Lib.hid qI
  clear qI q9 zi hcg
  go_wp2_with fail
  go_ret
  refine⟨g,cap,rfl,zw.out,?_,hcap⟩
  have h:=qQ.out
  rw[J4]
  exact h
 ·obtain⟨hn,hcell⟩:=recs_cellsA hrv
  subst hn
  have hone:=YT l
  have hln:=Qy l
  have hnl:World.ownsRow w w.heap.size 51 5 (.slice none 0 0) 0 []:=World.ownsRow_nil _ _ _ _
  have hnews:∀j u,(qG l)[j]? =some u→w.cell? (ad.add j)=some u:=hcell
  have p1:0+l.length≤maxLen:=by unfold maxLen;omega
  have p2:(0+l.length)*56≤140737488355328:=by omega
  have HONE:=Lib.hid hone;have HLN:=Lib.hid hln;have HNL:=Lib.hid hnl;have Z6:=Lib.hid hnews;have P1:=Lib.hid p1;have P2:=Lib.hid p2;have HCELL:=Lib.hid hcell;have HRV:=Lib.hid hrv
  clear hone hln hnl hnews p1 p2 hcell hrv
  go_enter Tryz.func23,Tryz.ntmps23
  go_wp2_with (at_builtin;refine qF _ rfl _ _ 22 rfl w.heap.size 51 kX (.agg #[.string ⟨#[]⟩,.int .i64 0,.int .i64 0,.int .i64 0,.string ⟨#[]⟩]) 5 56 Tryz.underlying22 kZ.out kY.out yK.out yJ.out rfl (by decide) _ _ _ rfl HNL.out ad l.length cap (qG l) rfl HLN.out Z6.out HONE.out P1.out P2.out (Nat.le_refl _) ?_)
  intro v0 w0 hown0 hg0 hnn0
  have HB0:=Lib.hid ((Below.refl w.heap.size w).grown hg0 (Nat.le_refl _) (fun j hj=>by cases hj))
  have hz0:=HB0.out.size
  have HOWN0:=Lib.hid (show w0.ownsRow w.heap.size 51 5 v0 l.length (qG l) from by simpa using hown0)
  clear hown0 hg0 hnn0 P1 P2 Z6
  go_wp2_with fail
  refine(ZA _).mono ?_
  rintro e ws1 ⟨rfl,hBs1⟩
  have HBs:=Lib.hid (Below.trans (B:=w.heap.size) (a:=w) HB0.out (hBs1.mono hz0))
  have hzs:=HBs.out.size
  have HOs:=Lib.hid (ownsRow_below HOWN0.out hBs1)
  clear hBs1
  go_wp2_with fail
  refine(ZA _).mono ?_
  rintro e ws2 ⟨rfl,hBs2⟩
  have HBs2:=Lib.hid (HBs.out.trans (hBs2.mono hzs))
  have hzs2:=HBs2.out.size
  have HOs2:=Lib.hid (ownsRow_below HOs.out hBs2)
  clear hBs2
  have HBs3:=Lib.hid (HBs2.out.alloc hzs2 (.cells (qG [zG,zG]).toArray 51))
  have HOs3:=Lib.hid (qi HOs2.out fun b hb=>Below.heap_alloc ws2 (.cells (qG [zG,zG]).toArray 51) b (HOs2.out.lt b hb).2)
  have Z6:=Lib.hid (yA ws2 (qG [zG,zG]) 51)
  have P1:=Lib.hid (show l.length+2≤maxLen from by unfold maxLen;omega)
  have P2:=Lib.hid (show(l.length+2)*56≤140737488355328 from by omega)
  have P3:=Lib.hid (show w.heap.size≤(ws2.alloc (.cells (qG [zG,zG]).toArray 51)).heap.size from by simp;omega)
  have ONE2:=Lib.hid (YT [zG,zG])
  go_wp2_with (at_builtin;refine qF _ rfl _ _ 22 rfl w.heap.size 51 kX (.agg #[.string ⟨#[]⟩,.int .i64 0,.int .i64 0,.int .i64 0,.string ⟨#[]⟩]) 5 56 Tryz.underlying22 kZ.out kY.out yK.out yJ.out rfl (by decide) _ _ _ rfl HOs3.out ⟨ws2.heap.size,0,none⟩ 2 2 (qG [zG,zG]) rfl rfl Z6.out ONE2.out P1.out P2.out P3.out ?_)
  intro v' w10 qI q9 zi
  have zw:=Lib.hid (HBs3.out.grown q9 P3.out (fun j hj=>(HOs3.out.lt j hj).1))
  obtain⟨g,cap,rfl,hcg,_⟩:=qI.form (by omega)
  obtain⟨_,cap',hv,hcap⟩:=qC qI
  simp only[Value.slice.injEq,true_and]at hv
  obtain⟨rfl,rfl⟩:=hv
  have hcap2:l.length≤cap:=by omega
  have qQ:=Lib.hid qI
  clear qI q9 zi hcg
  go_wp2_with fail
  go_ret
  refine⟨g,cap,rfl,zw.out,?_,hcap⟩
  have h:=qQ.out
  rw[J4]
  exact h
theorem UE (h:Hd)(qs:List Qn)(an au ad:List Rec)(hq:qs.length*32≤1099511627776)(ha:an.length*56≤1099511627776)(hu:au.length*56≤1099511627776)(hd:ad.length*56≤1099511627776)(q a u d:Value)
 (fq:uD q) (fa:uD a) (fu:uD u) (fd:uD d) (w:World) (rq:kJ w q qs) (ra:qy w a an) (ru:qy w u au) (rd:qy w d ad):
 Calls Tryz.prog 8 #[Yg h q a u d] w fun e w'=>RTwinM h qs an au ad w e w':=by
 obtain⟨i0_q,hi_q,hz_q,hz1_q,hz2_q⟩:=info_parts info_qn
 have HI_Q:=Lib.hid hi_q;have HZ_Q:=Lib.hid hz_q;have HZ1_Q:=Lib.hid hz1_q;have HZ2_Q:=Lib.hid hz2_q
 clear hi_q hz_q hz1_q hz2_q
 obtain⟨w1,hw1⟩:∃X,X=w.alloc (.cells (Yh h q a u d).toArray 25):=⟨_,rfl⟩
 obtain⟨w2,hw2⟩:∃X,X=w1.alloc (.cells (Yh hd0 (.slice none 0 0) (.slice none 0 0) (.slice none 0 0) (.slice none 0 0)).toArray 25):=⟨_,rfl⟩
 obtain⟨hB1,hs1,hm1⟩:=uJ hw1
 obtain⟨hB2,hs2,hm2⟩:=uJ hw2
 have hma:=hm1.below hB2
 have hB:=hB1.trans (hB2.mono hB1.size)
 rw[hs1]at hm2 hs2
 have hws:w2.heap.size=w.heap.size+2:=by omega
 clear hm1 hs1 hs2 hB1 hB2
 obtain⟨x0,x1,x2,x3,x4,x5,x6,x7,x8,x9,x10,x11,x12,x13⟩:=hma.facts
 have y10:=hma.free 10
 have hq2:=rq.below hB
 have HW1:=Lib.hid hw1;have HW2:=Lib.hid hw2;have HB:=Lib.hid hB;have HMA:=Lib.hid hma;have HM2:=Lib.hid hm2;have RQ:=Lib.hid rq;have RA:=Lib.hid ra;have RU:=Lib.hid ru;have RD:=Lib.hid rd;have HQ2:=Lib.hid hq2;have HWS:=Lib.hid hws
 clear hw1 hw2 hB hma hm2 rq ra ru rd hq2 hws
 go_enter Tryz.func8,Tryz.ntmps8
 go_upto_region 1 with fail
 rw[← HW1.out,← HW2.out]
 go_cut [5] (fun _ wx=>∃q',wx.ownsRow w.heap.size 63 3 q' qs.length (YW qs)∧yn wx w.heap.size h q' a u d∧yn wx (w.heap.size+1) hd0 (.slice none 0 0) (.slice none 0 0) (.slice none 0 0) (.slice none 0 0)∧q'.ownBlock≠some w.heap.size∧q'.ownBlock≠some (w.heap.size+1)∧Below w.heap.size w wx)
 case first=>
  rcases fq with rfl | ⟨ad,n,cap,rfl⟩
  ·have h0:qs= []:=by
    obtain⟨_,_,hv,_⟩:=RQ.out
    simp only[Value.slice.injEq]at hv
    exact List.eq_nil_of_length_eq_zero hv.2.1.symm
   subst h0
   go_wp2_with fail
   go_meet
   exact⟨_,World.ownsRow_nil _ _ _ _,HMA.out.set10 _,(Below.heap_setCell _ _ _ _ (by simp)).trans HM2.out,by simp[Value.ownBlock],by simp[Value.ownBlock],HB.out.setCell (Nat.le_refl _) _⟩
  ·obtain⟨hn,hcell⟩:=qns_cellsA HQ2.out
   subst hn
   have HONE:=Lib.hid (qns_one qs)
   have HLN:=Lib.hid (qnsC_len qs)
   have HNL:=Lib.hid (World.ownsRow_nil w2 w2.heap.size 63 3)
   have Z6:=Lib.hid (fun(j:Nat) (u:Value) (hu:(YW qs)[j]? =some u)=>(hcell j u hu:w2.cell? (ad.add j)=some u))
   have P1:=Lib.hid (show 0+qs.length≤maxLen from by unfold maxLen;omega)
   have P2:=Lib.hid (show(0+qs.length)*32≤140737488355328 from by omega)
   clear hcell
   go_wp2_with (at_builtin;refine qF _ rfl _ _ 23 rfl w2.heap.size 63 i0_q (.agg #[.string ⟨#[]⟩,.int .i64 0,.int .i64 0]) 3 32 Tryz.underlying23 HI_Q.out HZ_Q.out HZ1_Q.out HZ2_Q.out rfl (by decide) _ _ _ rfl HNL.out ad qs.length cap (YW qs) rfl HLN.out Z6.out HONE.out P1.out P2.out (Nat.le_refl _) ?_)
   intro v0 w3 hown3 hg3 hnn3
   have hB3:Below w2.heap.size w2 w3:=(Below.refl _ w2).grown hg3 (Nat.le_refl _) (fun j hj=>by cases hj)
   have hm3:=HMA.out.below hB3
   have hr3:=HM2.out.below hB3
   have X6:w3.ownsRow w2.heap.size 63 3 v0 qs.length (YW qs):=by simpa using hown3
   have hv1:v0.ownBlock≠some w.heap.size:=fun e=>by have:=(X6.lt _ e).1;have:=HWS.out;omega
   have hv2:v0.ownBlock≠some (w.heap.size+1):=fun e=>by have:=(X6.lt _ e).1;have:=HWS.out;omega
   have hBe:=HB.out.trans (hB3.mono HB.out.size)
   obtain⟨a3,c3,rfl,_⟩:=qC X6
   clear x0 x1 x2 x3 x4 x5 x6 x7 x8 x9 x10 x11 x12 x13 y10
   obtain⟨_,_,_,_,_,_,_,_,_,_,x10,_,_,_⟩:=hm3.facts
   have y10:=hm3.free 10
   have HOWN3:=Lib.hid hown3;have HG3:=Lib.hid hg3;have HNN3:=Lib.hid hnn3;have HB3:=Lib.hid hB3;have HM3:=Lib.hid hm3;have HR3:=Lib.hid hr3;have HOWN3':=Lib.hid X6;have HV1:=Lib.hid hv1;have HV2:=Lib.hid hv2;have HBE:=Lib.hid hBe
   clear hown3 hg3 hnn3 hB3 hm3 hr3 X6 hv1 hv2 hBe
   go_wp2_with fail
   go_meet
   exact⟨_,qi (yj HOWN3'.out (by have:=HWS.out;omega)) (fun b hb=>Below.heap_setCell _ _ _ _ (fun e=>HV1.out (by rw[hb,e]))),HM3.out.set10 _,(Below.heap_setCell _ _ _ _ (by simp)).trans HR3.out,HV1.out,HV2.out,HBE.out.setCell (Nat.le_refl _) _⟩
 case rest=>
 obtain⟨q',hqr,hmc,hmr,hq1,hq2,hBc⟩:=hcut
 clear x0 x1 x2 x3 x4 x5 x6 x7 x8 x9 x10 x11 x12 x13 y10
 obtain⟨w3,hw3⟩:∃W:World,W=wc:=⟨_,rfl⟩
 subst hw3
 obtain⟨_,_,_,_,_,_,_,_,_,_,_,x11,x12,x13⟩:=hmc.facts
 have hra:=RA.out.below hBc;have hru:=RU.out.below hBc;have hrd:=RD.out.below hBc
 have HTA:=Lib.hid (fun(X:World) (hX:Below w3.heap.size w3 X)=>UF an ha a fa X (hra.below hX))
 have HTU:=Lib.hid (fun(X:World) (hX:Below w3.heap.size w3 X)=>UF au hu u fu X (hru.below hX))
 have HTD:=Lib.hid (fun(X:World) (hX:Below w3.heap.size w3 X)=>UF ad hd d fd X (hrd.below hX))
 have HMK:=Lib.hid (fun(X:World) (hX:Below w3.heap.size w3 X)=>hmc.below hX)
 have hb1:Below w3.heap.size w3 w3.drew:=(Below.refl _ _).drew
 have hb2:=Below.size hb1
 obtain⟨mb,hmb⟩:∃n,n=w.heap.size:=⟨_,rfl⟩
 have hml:mb<w3.heap.size:=by rw[hmb];exact hmc.lt
 have hmr2:yn w3 (mb+1) hd0 (.slice none 0 0) (.slice none 0 0) (.slice none 0 0) (.slice none 0 0):=by rw[hmb];exact hmr
 have hml2:mb+1<w3.heap.size:=hmr2.lt
 rw[← hmb]at x11 x12 x13 HMK
 have HRT:=Lib.hid (fun X (hX:Below w3.heap.size w3 X)=>hX)
 clear hra hru hrd hmr
 have HQR:=Lib.hid hqr;have HMC:=Lib.hid hmc;have HMR2:=Lib.hid hmr2;have HQ1:=Lib.hid hq1;have HQ2:=Lib.hid hq2;have HBC:=Lib.hid hBc;have HMB:=Lib.hid hmb
 clear hqr hmc hmr2 hq1 hq2 hBc hmb
 go_upto_region 2 with fail
 rw[← HMB.out]
 go_cut [9] (fun _ wx=>∃ga ca gu cu gd cd,w3.grownBy wx (some mb)∧yn wx mb h q' (.slice (some ⟨ga,0,none⟩) an.length ca) (.slice (some ⟨gu,0,none⟩) au.length cu) (.slice (some ⟨gd,0,none⟩) ad.length cd)∧
  zZ wx w3.heap.size ga ca an∧zZ wx w3.heap.size gu cu au∧zZ wx w3.heap.size gd cd ad)
 case first=>
  go_region_with (first
   | (go_at_call 23;(with_reducible refine(HTA.out _ hb1).mono ?_);rintro e wA ⟨ga,ca,rfl,hbA,hoA,hcA⟩;have QM:Below w3.heap.size w3 wA:=hb1.trans (hbA.mono hb2);obtain⟨_,_,_,_,_,_,_,_,_,_,_,a11,a12,a13⟩:=(HMK.out _ QM).facts)
   | (go_at_call 23;(with_reducible refine(HTU.out _ QM).mono ?_);rintro e wU ⟨gu,cu,rfl,hbU,hoU,hcU⟩;have hbU2:Below w3.heap.size w3 wU:=QM.trans (hbU.mono QM.size);obtain⟨_,_,_,_,_,_,_,_,_,_,_,b11,b12,b13⟩:=(HMK.out _ hbU2).facts)
   | (go_at_call 23;(with_reducible refine(HTD.out _ hbU2).mono ?_);rintro e wD ⟨gd,cd,rfl,hbD,hoD,hcD⟩;have hbD2:Below w3.heap.size w3 wD:=hbU2.trans (hbD.mono hbU2.size);obtain⟨_,_,_,_,_,_,_,_,_,_,_,c11,c12,c13⟩:=(HMK.out _ hbD2).facts;have f11:=(HMK.out _ hbD2).free 11;have f12:=(HMK.out _ hbD2).free 12;have f13:=(HMK.out _ hbD2).free 13))
  all_goals (go_wp2_with fail;go_meet;exact twins_done hml hbA hbU hbD (HMK.out _ hbD2) hbD2 ⟨hoA,hcA⟩ ⟨hoU,hcU⟩ ⟨hoD,hcD⟩)
 case rest=>
 obtain⟨ga,ca,gu,cu,gd,cd,hg,hm,ta,tu,td⟩:=hcut
 clear x11 x12 x13 hb1 hb2
 have hmr:yn wc (mb+1) hd0 (.slice none 0 0) (.slice none 0 0) (.slice none 0 0) (.slice none 0 0):=(hg.block _ hml2 (by simp)).trans HMR2.out
 obtain⟨x0,x1,x2,x3,x4,x5,x6,x7,x8,x9,x10,x11,x12,x13⟩:=hm.facts
 obtain⟨y0,y1,y2,y3,y4,y5,y6,y7,y8,y9,y10,y11,y12,y13⟩:=hmr.facts
 have f0:=hmr.free 0;have f1:=hmr.free 1;have f2:=hmr.free 2;have f3:=hmr.free 3;have f4:=hmr.free 4;have f5:=hmr.free 5;have f6:=hmr.free 6;have f7:=hmr.free 7;have f8:=hmr.free 8;have f9:=hmr.free 9;have f10:=hmr.free 10;have f11:=hmr.free 11;have f12:=hmr.free 12;have f13:=hmr.free 13
 obtain⟨qa,qc,rfl,-⟩:=qC HQR.out
 obtain⟨hst,hgst⟩:=XL hmr h (.slice qa qs.length qc) (.slice (some ⟨ga,0,none⟩) an.length ca) (.slice (some ⟨gu,0,none⟩) au.length cu) (.slice (some ⟨gd,0,none⟩) ad.length cd)
 have KZ:∀b,b<wc.heap.size→b≠mb+1→_:=fun b hb hne=>hgst.block b hb (by simpa using hne)
 have e1:=ta.lt.1
 have e2:=tu.lt.1
 have e3:=td.lt.1
 have hBe:Below w.heap.size w _:=(HBC.out.grown hg (HBC.out.size) (fun j hj=>by simp only[Option.some.injEq]at hj;have:=HMB.out;omega)).grown hgst (by have:=HBC.out.size;have:=hg.size;omega) (fun j hj=>by simp only[Option.some.injEq]at hj;have:=HMB.out;omega)
 have hqe:=qi HQR.out (fun b hb=>(KZ b (Nat.lt_of_lt_of_le (HQR.out.lt b hb).2 hg.size) (fun e=>HQ2.out (by rw[hb,e,HMB.out]))).trans (hg.block b (HQR.out.lt b hb).2 (fun e=>HQ1.out (by rw[hb,← HMB.out];exact e))))
 have hpost:RTwinM h qs an au ad w (.returned (Yg h (.slice qa qs.length qc) (.slice (some ⟨ga,0,none⟩) an.length ca) (.slice (some ⟨gu,0,none⟩) au.length cu) (.slice (some ⟨gd,0,none⟩) ad.length cd))) _:=
  ⟨_,ga,ca,gu,cu,gd,cd,rfl,hBe,hqe,(ta.JA (KZ _ ta.lt.2 (by omega))).kI HBC.out.size,(tu.JA (KZ _ tu.lt.2 (by omega))).kI HBC.out.size,(td.JA (KZ _ td.lt.2 (by omega))).kI HBC.out.size⟩
 clear KZ hBe hqe hgst
 have HST:=Lib.hid hst
 have HG:=Lib.hid hg;have HM:=Lib.hid hm;have TA:=Lib.hid ta;have TU:=Lib.hid tu;have TD:=Lib.hid td;have HMR:=Lib.hid hmr;have HPOST:=Lib.hid hpost
 clear hg hm ta tu td hmr hpost
 clear hst
 go_wp2_with fail
 exact msg_ret rfl rfl rfl HST.out HPOST.out
end Go.Proofs.YtdjjemajfphjaaaGreat
namespace Go.Proofs.YtdjjemajfphjaaaGreat
open Go.RowKit Go.ChangeShapes Go.WideShapes Go.ChangeAt Go.Deep Go.Joins
structure MsgFitA (M:Msg)(q a u d:Value):Prop where
 nq:M.qs.length≤1048576
 na:M.an.length≤1048576
 nu:M.au.length≤1048576
 nd:M.ad.length≤1048576
 fq:uD q
 fa:uD a
 fu:uD u
 fd:uD d
 sq:∀y∈M.qs,(Lit.int .i64 y.typ).wf=true∧y.name.size≤1099511627776
 sa:∀y∈M.an,(Lit.int .i64 y.typ).wf=true∧y.owner.size≤1099511627776
 su:∀y∈M.au,(Lit.int .i64 y.typ).wf=true∧y.owner.size≤1099511627776
 sd:∀y∈M.ad,(Lit.int .i64 y.typ).wf=true∧y.owner.size≤1099511627776
def Vl (w:World)(v:Value)(l:List Msg):Prop:=∃ao cap,v= .slice ao l.length cap∧l.length≤cap∧
 ∀k (hk:k<l.length),∃b off q a u d,ao=some ⟨b,off,none⟩∧b<w.heap.size∧(∀j x,(Yh l[k].h q a u d)[j]? =some x→w.cell? ⟨b,off+k*14+j,none⟩=some x)∧MsgIn w l[k] q a u d∧MsgFitA l[k] q a u d
theorem Vl.below {w w':World}{v:Value}{l:List Msg}(h:Vl w v l)(hB:Below w.heap.size w w'):Vl w' v l:=by
 obtain⟨ao,cap,h1,h2,h3⟩:=h
 refine⟨ao,cap,h1,h2,fun k hk=>?_⟩
 obtain⟨b,off,q,a,u,d,e,hb,hc,hi,hf⟩:=h3 k hk
 exact⟨b,off,q,a,u,d,e,Nat.lt_of_lt_of_le hb hB.size,fun j x hx=>(hB.cell (p:=⟨b,_,none⟩) hb).trans (hc j x hx),hi.below hB,hf⟩
section
variable {H:Type}{enc:TypeId×Value→H}{W:World}{spare:Nat→Bool}{held:Bool}
theorem Jm {t e:TypeId}{fuel:Nat}{v:Value}{x:DataW H×List MemPlace}(ht:Tryz.prog.underlying t=some (.slice e))(h:DataW.trod enc Tryz.prog W 0 spare held fuel t [v]=some x):uD v:=by
 rcases open_slice ht h with⟨h0,_⟩|⟨a,len,cap,m,n,D,Pl,hcs,_⟩
 ·simp only[List.cons.injEq,and_true]at h0
  exact .inl h0
 ·simp only[List.cons.injEq,and_true]at hcs
  exact .inr ⟨a,len,cap,hcs⟩
theorem open_msgs {fuel:Nat}{v:Value}{x:DataW H×List MemPlace}(hf:DataW.trod enc Tryz.prog W 0 spare held fuel 36 [v]=some x)(hb:Rows.uptoBulk x.1≤1048576):
 ∃ao cap l,v= .slice ao (l:List Msg).length cap∧l.length≤1048576∧Vl W (.slice ao l.length cap) l:=by
 rcases uk Tryz.underlying36 Tryz.underlying25 (by kernel_rfl) (by kernel_rfl) hf with⟨hcs,_⟩|⟨ad,len,cap,m,D,Pl,hcs,hbb,hl,hm,hmm,hx,hi⟩
 ·simp only[List.cons.injEq,and_true]at hcs
  exact⟨none,0,[],hcs,by simp,⟨none,0,rfl,Nat.le_refl _,fun k hk=>absurd hk (Nat.not_lt_zero _)⟩⟩
 ·simp only[List.cons.injEq,and_true]at hcs
  have hnm:len≤m:=by rw[hmm];split <;> omega
  have hlb:len≤1048576:=by
   have h1:=Qq.UN ((List.range len).map D) ((List.range (m-len)).map fun j=>D (len+j))
   rw[List.length_map,List.length_range]at h1
   rw[hx]at hb
   exact Nat.le_trans h1 hb
  have hD:∀i,i<len→Rows.uptoBulk (D i)≤1048576:=fun i hi=>by
   have h1:Rows.uptoBulk (D i)≤Rows.uptoBulkAll ((List.range len).map D):=Qq.part_le (List.mem_map.2 ⟨i,List.mem_range.2 hi,rfl⟩)
   rw[hx]at hb
   simp only[Rows.uptoBulk]at hb
   omega
  obtain⟨l,h1,h2⟩:=list_of (P:=fun i (M:Msg)=>∃q a u d,(∀j x,(Yh M.h q a u d)[j]? =some x→W.cell? (ad.add (i*14+j))=some x)∧MsgIn W M q a u d∧MsgFitA M q a u d) len (fun i hin=>by
   obtain⟨ys,k,hDi,_,_,hf⟩:=hi i (by omega)
   have hDb:=hD i hin
   rw[hDi]at hDb
   obtain⟨v0,y0,c0,g0,t0⟩:=hf 0 _ rfl
   obtain⟨v1,y1,c1,g1,t1⟩:=hf 1 _ rfl
   obtain⟨v2,y2,c2,g2,t2⟩:=hf 2 _ rfl
   obtain⟨v3,y3,c3,g3,t3⟩:=hf 3 _ rfl
   obtain⟨v4,y4,c4,g4,t4⟩:=hf 4 _ rfl
   obtain⟨v5,y5,c5,g5,t5⟩:=hf 5 _ rfl
   obtain⟨v6,y6,c6,g6,t6⟩:=hf 6 _ rfl
   obtain⟨v7,y7,c7,g7,t7⟩:=hf 7 _ rfl
   obtain⟨v8,y8,c8,g8,t8⟩:=hf 8 _ rfl
   obtain⟨v9,y9,c9,g9,t9⟩:=hf 9 _ rfl
   obtain⟨v10,y10,c10,g10,t10⟩:=hf 10 _ rfl
   obtain⟨v11,y11,c11,g11,t11⟩:=hf 11 _ rfl
   obtain⟨v12,y12,c12,g12,t12⟩:=hf 12 _ rfl
   obtain⟨v13,y13,c13,g13,t13⟩:=hf 13 _ rfl
   obtain⟨i0,e0,_,_⟩:=DataW.trod_int Tryz.underlying3 t0
   obtain⟨i1,e1,_⟩:=DataW.trod_bool Tryz.underlying4 t1
   obtain⟨i2,e2,_,_⟩:=DataW.trod_int Tryz.underlying3 t2
   obtain⟨i3,e3,_⟩:=DataW.trod_bool Tryz.underlying4 t3
   obtain⟨i4,e4,_⟩:=DataW.trod_bool Tryz.underlying4 t4
   obtain⟨i5,e5,_⟩:=DataW.trod_bool Tryz.underlying4 t5
   obtain⟨i6,e6,_⟩:=DataW.trod_bool Tryz.underlying4 t6
   obtain⟨i7,e7,_⟩:=DataW.trod_bool Tryz.underlying4 t7
   obtain⟨i8,e8,_⟩:=DataW.trod_bool Tryz.underlying4 t8
   obtain⟨i9,e9,_,_⟩:=DataW.trod_int Tryz.underlying3 t9
   have fa10:=Jm Tryz.underlying23 t10
   have b10:Rows.uptoBulk y10.1≤1048576:=Nat.le_trans (Qq.Vj (List.mem_map.2 ⟨y10,List.mem_of_getElem? g10,rfl⟩)) hDb
   have fa11:=Jm Tryz.underlying22 t11
   have b11:Rows.uptoBulk y11.1≤1048576:=Nat.le_trans (Qq.Vj (List.mem_map.2 ⟨y11,List.mem_of_getElem? g11,rfl⟩)) hDb
   have fa12:=Jm Tryz.underlying22 t12
   have b12:Rows.uptoBulk y12.1≤1048576:=Nat.le_trans (Qq.Vj (List.mem_map.2 ⟨y12,List.mem_of_getElem? g12,rfl⟩)) hDb
   have fa13:=Jm Tryz.underlying22 t13
   have b13:Rows.uptoBulk y13.1≤1048576:=Nat.le_trans (Qq.Vj (List.mem_map.2 ⟨y13,List.mem_of_getElem? g13,rfl⟩)) hDb
   obtain⟨a10,c10',qs,e10,n10,r10,k10⟩:=open_asks t10
   obtain⟨a11,c11',l11,e11,_,r11,k11⟩:=Ju t11
   obtain⟨a12,c12',l12,e12,_,r12,k12⟩:=Ju t12
   obtain⟨a13,c13',l13,e13,_,r13,k13⟩:=Ju t13
   simp only[List.cons.injEq,and_true]at e0 e1 e2 e3 e4 e5 e6 e7 e8 e9
   subst e0 e1 e2 e3 e4 e5 e6 e7 e8 e9 e10 e11 e12 e13
   obtain⟨n11,z11⟩:=Jt t11 r11
   obtain⟨n12,z12⟩:=Jt t12 r12
   obtain⟨n13,z13⟩:=Jt t13 r13
   refine⟨⟨⟨i0,i1,i2,i3,i4,i5,i6,i7,i8,i9⟩,qs,l11,l12,l13⟩,_,_,_,_,?_,⟨r10,r11,r12,r13⟩,⟨Nat.le_trans n10 b10,Nat.le_trans n11 b11,Nat.le_trans n12 b12,Nat.le_trans n13 b13,fa10,fa11,fa12,fa13,fun y hy=>⟨(k10 y hy).1,by have:=(k10 y hy).2;omega⟩,fun y hy=>⟨k11 y hy,by have:=z11 y hy;omega⟩,fun y hy=>⟨k12 y hy,by have:=z12 y hy;omega⟩,fun y hy=>⟨k13 y hy,by have:=z13 y hy;omega⟩⟩⟩
   intro j x hx
   match j,hx with
   | 0,hx=>obtain rfl:=Option.some.inj hx;exact c0
   | 1,hx=>obtain rfl:=Option.some.inj hx;exact c1
   | 2,hx=>obtain rfl:=Option.some.inj hx;exact c2
   | 3,hx=>obtain rfl:=Option.some.inj hx;exact c3
   | 4,hx=>obtain rfl:=Option.some.inj hx;exact c4
   | 5,hx=>obtain rfl:=Option.some.inj hx;exact c5
   | 6,hx=>obtain rfl:=Option.some.inj hx;exact c6
   | 7,hx=>obtain rfl:=Option.some.inj hx;exact c7
   | 8,hx=>obtain rfl:=Option.some.inj hx;exact c8
   | 9,hx=>obtain rfl:=Option.some.inj hx;exact c9
   | 10,hx=>obtain rfl:=Option.some.inj hx;exact c10
   | 11,hx=>obtain rfl:=Option.some.inj hx;exact c11
   | 12,hx=>obtain rfl:=Option.some.inj hx;exact c12
   | 13,hx=>obtain rfl:=Option.some.inj hx;exact c13
   | j+14,hx=>cases hx)
  refine⟨some ad,cap,l,by rw[hcs,h1],by omega,⟨some ad,cap,rfl,by omega,fun k hk=>?_⟩⟩
  obtain⟨q,a,u,d,hc,hin,hfit⟩:=h2 k _ (List.getElem?_eq_getElem hk)
  obtain⟨b,off,spot⟩:=ad
  have c0:=hc 0 _ rfl
  have hspot:spot=none:=by
   have hk0:0<l.length:=by omega
   obtain⟨_,_,_,_,hc0,_,_⟩:=h2 0 _ (List.getElem?_eq_getElem hk0)
   have h9:=World.cell?_spot (hc0 0 _ rfl)
   simpa[Addr.add] using h9
  subst hspot
  refine⟨b,off,q,a,u,d,rfl,World.block_lt_of_cell? _ _ (by rw[Addr.add_lit]at c0;exact c0),fun j x hx=>?_,hin,hfit⟩
  have:=hc j x hx
  rw[Addr.add_lit]at this
  rw[Nat.add_assoc]
  exact this
end
end Go.Proofs.YtdjjemajfphjaaaGreat
