import Derived.Test.YtdjjemajfphjaaaGreatQUpdCl
set_option maxRecDepth 100000
set_option maxHeartbeats 8000000
namespace Go.Proofs.YtdjjemajfphjaaaGreat
open Go.RowKit Go.Shelf nm od
namespace up
def addC (l:List Rec)(x:Rec):List Rec:=
 if(l.any fun y=>yf (qm x.owner) y && decide (y.typ≠5) && !ja y.typ)=true then l
 else(((l.filter fun y=>!(yf (qm x.owner) y && decide (y.typ=5))).filter fun y=>!uP (zn.zf x) y) ++ [x]).map (kU (qm x.owner) x)
end up
theorem callFunc_add1 (args:Array Value)(w:World):(callFunc 87 args).run Tryz.prog w= .ok (.enter 87 args) w:=by kernel_rfl
theorem callFunc_add2 (args:Array Value)(w:World):(callFunc 90 args).run Tryz.prog w= .ok (.enter 90 args) w:=by kernel_rfl
theorem addc_any (x:Rec)(hx1:x.cls=1)(hx5:x.typ=5)(base st:Nat)(qf:ByteArray)(l:List Rec)(hl:l.length≤1000000000)(w:World)(hb:base≤w.heap.size)(hs:zR w base st qf l):
 Calls Tryz.prog 41 #[.pointer (some ⟨st,0,none⟩),zB x] w fun e w'=>xI w base st qf (up.addC l x) e w':=by
 have hmf:∀(fn:Fn) (first cap:Array Value) (w:World),(Instr.makeFunc fn first cap).run Tryz.prog w= .ok (.func fn first cap) w:=fun _ _ _ _=>rfl
 obtain⟨kX,uz,uy,jd,jc⟩:=info_parts jM
 have kZ:=Lib.hid uz;have kY:=Lib.hid uy;have yK:=Lib.hid jd;have yJ:=Lib.hid jc
 clear uz uy jd jc
 obtain⟨wa,hwa⟩:∃W,W=w.alloc (.cells (recC x).toArray 51):=⟨_,rfl⟩
 obtain⟨hBa,hsa,hxa⟩:=qM w wa x hwa
 obtain⟨bx,hbx⟩:∃b,b=w.heap.size:=⟨_,rfl⟩
 have hha:wa.heap[bx]? =some (.cells (recC x).toArray 51 (0,0)):=by rw[hwa];exact qo hbx
 obtain⟨wb,hwb⟩:∃W,W=wa.setCell ⟨bx,2,none⟩ (.int .i64 1):=⟨_,rfl⟩
 have hhb:wb.heap[bx]? =some (.cells (recC x).toArray 51 (0,0)):=by
  rw[hwb]
  refine(qB hha 2 (.int .i64 1)).trans ?_
  rw[show(recC x).toArray.setIfInBounds 2 (.int .i64 1)=(recC x).toArray by
   show(#[.string x.owner,.int .i64 x.typ,.int .i64 1,.int .i64 x.ttl,.string x.data]:Array Value)= #[.string x.owner,.int .i64 x.typ,.int .i64 x.cls,.int .i64 x.ttl,.string x.data]
   rw[hx1]]
 have hBb:Below w.heap.size w wb:=by rw[hwb];exact hBa.setCell (p:=⟨bx,2,none⟩) (by rw[hbx];exact Nat.le_refl _) _
 have hsb:wb.heap.size=w.heap.size+1:=by rw[hwb];simpa[World.setCell] using hsa
 have xa2:wa.cell? ⟨bx,2,none⟩=some (.int .i64 x.cls):=by rw[qg hha];rfl
 have xf2:wa.frozen? ⟨bx,2,none⟩=false:=qE hha 2
 have hrec:∀X:World,X.heap[bx]? =wb.heap[bx]?→QT X bx 0 x:=fun X hX=>by
  have h:=hX.trans hhb
  refine⟨?_,?_,?_,?_,?_⟩ <;> (rw[qg h];rfl)
 obtain⟨x0,x1,x2,x3,x4⟩:=hrec wb rfl
 have zU:bx<wb.heap.size:=by omega
 have HWA:=Lib.hid hwa;have HWB:=Lib.hid hwb;have HBX:=Lib.hid hbx;have HBB:=Lib.hid hBb;have Qv:=Lib.hid hrec;have yH:=Lib.hid zU;have HBL:=Lib.hid hb
 have HST:=Lib.hid (hs.below hBb)
 have HS0:=Lib.hid hs
 have d6:(x.typ == 6)=false:=by rw[beq_eq_false_iff_ne];omega
 have d5:(x.typ == 5)=true:=by rw[beq_iff_eq];exact hx5
 obtain⟨n,hn⟩:∃n,n=qm x.owner:=⟨_,rfl⟩
 have HN:=Lib.hid hn
 clear hwa hwb hBa hsa hxa hbx hha hhb hBb hsb hrec zU hb hs hn hx5 hx1
 go_enter Tryz.func41,Tryz.ntmps41
 go_upto_region 1 with fail
 rw[← HWA.out,← HBX.out]
 go_upto_region 2 with fail
 rw[← HWB.out]
 clear xa2 xf2
 go_wp2_with fail
 refine(Xe x.owner wb).mono ?_
 rintro e w1 ⟨rfl,hB1,hcn,hln⟩
 rw[← HN.out]at hcn
 obtain⟨bn,hbn⟩:∃b,b=wb.heap.size:=⟨_,rfl⟩
 rw[← hbn]at hcn hln ⊢
 obtain⟨w2,hw2⟩:∃X,X=w1.alloc (.cells #[.func (.func 142) #[] #[.pointer (some ⟨bn,0,none⟩)]] 114):=⟨_,rfl⟩
 have hB2:Below w1.heap.size w1 w2:=by rw[hw2];exact(Below.refl _ w1).alloc (Nat.le_refl _) _
 have hs2:w2.heap.size=w1.heap.size+1:=by rw[hw2,World.size_alloc]
 obtain⟨b4,hb4⟩:∃b,b=w1.heap.size:=⟨_,rfl⟩
 have hc4:w2.cell? ⟨b4,0,none⟩=some (.func (.func 142) #[] #[.pointer (some ⟨bn,0,none⟩)]):=by rw[hw2,qg (qo hb4)];rfl
 have K8:Below wb.heap.size wb w2:=hB1.trans (hB2.mono hB1.size)
 have Y9:uE w2 b4 bn n:=⟨hc4,(hB2.cell (p:=⟨bn,0,none⟩) hln).trans hcn,by omega,by omega⟩
 obtain⟨y0,y1,y2,y3,y4⟩:=Qv.out w2 (K8.block bx yH.out)
 have HW2:=Lib.hid hw2;have HB4:=Lib.hid hb4;have V7:=Lib.hid K8;have HERE:=Lib.hid Y9
 have HST2:=Lib.hid (HST.out.below K8)
 have HNE:=Lib.hid (show bn≠st∧b4≠st∧bx≠st from by
  have h1:=HST.out.lt
  have h2:=HS0.out.lt
  have h3:=hB1.size
  have h4:=HBX.out
  have h5:=HBB.out.size
  omega)
 have HBN:=Lib.hid hbn
 clear hB1 hcn hln hw2 hB2 hs2 hb4 hc4 K8 Y9 hbn x0 x1 x2 x3 x4
 go_upto_region 3 with fail
 rw[← HW2.out,← HB4.out]
 obtain⟨ab,hab⟩:∃ab,ab=l.any fun y=>yf n y && decide (y.typ≠5) && !up.ja y.typ:=⟨_,rfl⟩
 have HAB:=Lib.hid hab
 have hadd:up.addC l x=if ab=true then l else(((l.filter fun y=>!(yf n y && decide (y.typ=5))).filter fun y=>!uP (zn.zf x) y) ++ [x]).map (up.kU n x):=by
  unfold up.addC
  rw[← HN.out,hab]
 have HADD:=Lib.hid hadd
 clear hab hadd
 go_wp2_with fail
 refine(any_any_ 87 #[.pointer (some ⟨b4,0,none⟩)] callFunc_add1 (fun y=>yf n y && decide (y.typ≠5) && !up.ja y.typ) base st qf l hl w2 HST2.out (fun r _ X hX=>add1_any r b4 bn n X (HERE.out.below hX))).mono ?_
 rintro e wv ⟨rfl,hBv⟩
 rw[← HAB.out]
 have hLW2:bx<w2.heap.size:=Nat.lt_of_lt_of_le yH.out V7.out.size
 have HXV:=Lib.hid (V7.out.trans (hBv.mono V7.out.size))
 have HSTV:=Lib.hid (HST2.out.below hBv)
 have HEREV:=Lib.hid (HERE.out.below hBv)
 have HWV:=Lib.hid (HBB.out.trans (HXV.out.mono HBB.out.size))
 have HLV:=Lib.hid (Nat.lt_of_lt_of_le hLW2 hBv.size)
 clear hBv hLW2 y0 y1 y2 y3 y4
 cases ab
 ·have hcf4:=HEREV.out.1
  go_wp2_with fail
  refine(xD 90 #[.pointer (some ⟨b4,0,none⟩)] callFunc_add2 (fun y=>yf n y && decide (y.typ=5)) base st qf l hl wv HSTV.out (fun r _ X hX=>add2_any r b4 bn n X (HEREV.out.below hX))).mono ?_
  rintro e w3 ⟨rfl,⟨v3,hsb3,hrow3⟩,hg3⟩
  obtain⟨l3,hl3⟩:∃l3,l3=l.filter fun y=>!(yf n y && decide (y.typ=5)):=⟨_,rfl⟩
  rw[← hl3]at hrow3
  have HL3:=Lib.hid hl3
  have hl:l3.length≤1000000000:=Nat.le_trans (by rw[hl3];exact List.length_filter_le _ _) hl
  have hbs3:=HSTV.out.kI
  have HST3:=Lib.hid (show zR w3 base st qf l3 from⟨v3,hsb3,hbs3,yj hrow3 (Nat.le_trans HBL.out HWV.out.size)⟩)
  have HERE3:=Lib.hid (HEREV.out.keep hg3 HNE.out.2.1 HNE.out.1)
  have HK3:=Lib.hid (show w3.heap[bx]? =wb.heap[bx]? from(hg3.block bx HLV.out (by simpa using HNE.out.2.2)).trans (HXV.out.block bx yH.out))
  have HW3:=Lib.hid (show Below base w w3 from(HWV.out.mono HBL.out).grown hg3 (Nat.le_trans HBL.out HWV.out.size) (fun j hj=>by cases hj;exact hbs3))
  have HL3X:=Lib.hid (Nat.lt_of_lt_of_le HLV.out hg3.size)
  have HS3:=Lib.hid (show w.heap.size≤w3.heap.size∧base≤w3.heap.size from⟨Nat.le_trans HWV.out.size hg3.size,Nat.le_trans HBL.out (Nat.le_trans HWV.out.size hg3.size)⟩)
  clear hg3 hsb3 hrow3 hl3 hbs3 hcf4
  obtain⟨y0,y1,y2,y3,y4⟩:=Qv.out w3 HK3.out
  obtain⟨⟨f0,f1,f2⟩,hf⟩:∃f,f=zn.zf x:=⟨_,rfl⟩
  have HF:=Lib.hid hf
  have CK:=Lib.hid (show Calls Tryz.prog 31 #[zB x] w3 fun e w'=>e= .returned (.agg #[.string f0,.int .i64 f1,.string f2])∧Below w3.heap.size w3 w' by have h:=xN x w3;rw[← hf]at h;exact h)
  clear hf
  go_upto_region 14 with fail
  go_wp2_with fail
  refine CK.out.mono ?_
  rintro e w4 ⟨rfl,hB4⟩
  obtain⟨w5,hw5⟩:∃X,X=w4.alloc (.cells #[.string f0,.int .i64 f1,.string f2] 72):=⟨_,rfl⟩
  obtain⟨b7,hb7⟩:∃b,b=w4.heap.size:=⟨_,rfl⟩
  have hB5:Below w4.heap.size w4 w5:=by rw[hw5];exact(Below.refl _ w4).alloc (Nat.le_refl _) _
  have hs5:w5.heap.size=w4.heap.size+1:=by rw[hw5,World.size_alloc]
  have hh5:w5.heap[b7]? =some (.cells #[.string f0,.int .i64 f1,.string f2] 72 (0,0)):=by rw[hw5];exact qo hb7
  have Q9:Zu w5 b7 (f0,f1,f2):=by refine⟨?_,?_,?_,by omega⟩ <;> (rw[qg hh5];rfl)
  have h35:Below w3.heap.size w3 w5:=hB4.trans (hB5.mono hB4.size)
  have HK5:=Lib.hid ((h35.block bx HL3X.out).trans HK3.out)
  have HL5:=Lib.hid (Nat.lt_of_lt_of_le HL3X.out h35.size)
  have HS5:=Lib.hid (show w.heap.size≤w5.heap.size∧base≤w5.heap.size from⟨Nat.le_trans HS3.out.1 h35.size,Nat.le_trans HS3.out.2 h35.size⟩)
  have Ji:=Lib.hid (HST3.out.below h35)
  have HERE5:=Lib.hid (HERE3.out.below h35)
  have HW5:=Lib.hid hw5;have Ur:=Lib.hid Q9;have HB7:=Lib.hid hb7
  have HWW5:=Lib.hid (HW3.out.trans (h35.mono HS3.out.2))
  clear hB4 hw5 hB5 hs5 hh5 Q9 h35 hb7 y0 y1 y2 y3 y4
  go_upto_region 15 with fail
  rw[← HW5.out,← HB7.out]
  go_wp2_with fail
  refine(xD 92 #[.pointer (some ⟨b7,0,none⟩)] JP (uP (f0,f1,f2)) base st qf l3 hl w5 Ji.out (fun r _ X hX=>add4_any r b7 (f0,f1,f2) X (Ur.out.below hX))).mono ?_
  rintro e w6 ⟨rfl,⟨v6,Qi,jm⟩,hg6⟩
  obtain⟨M,hM⟩:∃M,M=l3.filter fun y=>!uP (f0,f1,f2) y:=⟨_,rfl⟩
  rw[← hM]at jm
  have hMl:M.length≤l3.length:=by rw[hM];exact List.length_filter_le _ _
  have HM:=Lib.hid hM
  have hbs:=Ji.out.kI
  obtain⟨va,vc,rfl,-⟩:=qC jm
  have HVA:=Lib.hid (fun b (hb:(Value.slice va M.length vc).ownBlock=some b)=>(jm.lt b hb).1)
  have jm:=yj jm HS5.out.2
  have Ut:=Lib.hid (HERE5.out.keep hg6 HNE.out.2.1 HNE.out.1)
  have HK6:=Lib.hid (show w6.heap[bx]? =wb.heap[bx]? from(hg6.block bx HL5.out (by simpa using HNE.out.2.2)).trans HK5.out)
  have HBE6:=Lib.hid (show Below base w w6 from HWW5.out.grown hg6 HS5.out.2 (fun j hj=>by cases hj;exact hbs))
  obtain⟨y0,y1,y2,y3,y4⟩:=Qv.out w6 HK6.out
  have c1:w6.cell? ⟨st,1,none⟩=some (.slice va M.length vc):=by rw[qg Qi];rfl
  have c1b:(w6.alloc (.cells #[.string x.owner,.int .i64 x.typ,.int .i64 x.cls,.int .i64 x.ttl,.string x.data] 51)).cell? ⟨st,1,none⟩=some (.slice va M.length vc):=(World.cell?_of_block (a:=⟨st,1,none⟩) (Below.heap_alloc w6 _ st (qw Qi))).trans c1
  have HSB6:=Lib.hid Qi;have HROW6:=Lib.hid jm;have HBS:=Lib.hid hbs
  have HSZ:=Lib.hid (show w.heap.size≤w6.heap.size∧base≤w6.heap.size from⟨Nat.le_trans HS5.out.1 hg6.size,Nat.le_trans HS5.out.2 hg6.size⟩)
  have BA:=Lib.hid ((Below.refl w6.heap.size w6).drew.alloc (Nat.le_refl _) (.cells (recC x).toArray 51))
  have NEW:=Lib.hid (show(w6.drew.alloc (.cells (recC x).toArray 51)).ownsRow w6.heap.size 51 5 (.slice (some ⟨w6.heap.size,0,none⟩) 1 1) 1 (recC x) from XG w6.drew x)
  have S7:=Lib.hid (show ∀u∈recC x,u.oneCell'=true from fun u hu=>YT [x] u (by simpa[qG] using hu))
  have YF:=Lib.hid (ownsRow_below jm BA.out)
  have HSBA:=Lib.hid ((BA.out.block st (qw Qi)).trans Qi)
  have HG6:=Lib.hid hg6.size
  clear hg6 hM Qi jm hbs
  have HSTL:=Lib.hid (show st<w6.heap.size from qw HSB6.out)
  go_upto_region 16 with fail
  go_cut [7] (fun v wx=>v= .pointer (some ⟨b7,0,none⟩)∧AppAt w6 wx base st qf va vc M x)
  case first=>
   go_region_law (refine Yw rfl (.tmp 86) (.tmp 88) 22 rfl base 51 kX (.agg #[.string ⟨#[]⟩,.int .i64 0,.int .i64 0,.int .i64 0,.string ⟨#[]⟩]) 5 56 Tryz.underlying22 kZ.out kY.out yK.out yJ.out rfl (by decide) (.slice va M.length vc) M.length (qG M) (by simp[Act.eval]) YF.out ⟨w6.heap.size,0,none⟩ 1 1 (recC x) (by simp[Act.eval]) rfl (own_allU NEW.out) S7.out (by unfold maxLen;omega) (by omega) (Nat.le_trans HSZ.out.2 BA.out.size) ?_;intro v7 w7 uQ hg7 hnn7;obtain⟨g,gc,rfl,hgb,hgl⟩:=uQ.form (by omega);have hsb7:=(hg7.block st (qw HSBA.out) (fun e=>jb YF.out HSBA.out e.symm)).trans HSBA.out;have k1:w7.cell? ⟨st,1,none⟩=some (.slice va M.length vc):=(by rw[qg hsb7];rfl);have k2:w7.frozen? ⟨st,1,none⟩=false:=qE hsb7 1)
   all_goals
    have HAP:=Lib.hid (stock_app HSZ.out.2 HBS.out BA.out YF.out uQ hg7 hnn7 hsb7)
    clear uQ hg7 hnn7 hsb7 k1 k2
    go_wp2_with fail
    go_meet
    exact⟨rfl,HAP.out⟩
  case rest=>
   obtain⟨rfl,g,gc,X0,ZL,hB8,hk8,hg8⟩:=hcut
   obtain⟨w8,hw8⟩:∃X:World,X=wc:=⟨_,rfl⟩
   subst hw8
   obtain⟨N,hN⟩:∃N,N=M ++ [x]:=⟨_,rfl⟩
   have hNl:M.length+1=N.length:=by rw[hN,List.length_append,List.length_singleton]
   have hvne:∀b,b<w5.heap.size→(Value.slice va M.length vc).ownBlock≠some b:=fun b hb e=>by have:=HVA.out b e;omega
   have hl5:bx<w5.heap.size∧bn<w5.heap.size∧b4<w5.heap.size:=⟨HL5.out,HERE5.out.2.2.2,HERE5.out.2.2.1⟩
   have h56:=HG6.out
   have hk:∀b,b<w5.heap.size→b≠st→w8.heap[b]? =w6.heap[b]?:=fun b hb hne=>hk8 b (by omega) hne (hvne b hb)
   have hgn:∀b,b<w5.heap.size→g≠b:=fun b hb=>hg8 b (by omega) (hvne b hb)
   rw[hNl]at X0 ZL
   have ZL:w8.ownsRow base 51 5 (.slice (some ⟨g,0,none⟩) N.length gc) N.length (qG ((N.take 0).map (up.kU n x) ++ N.drop 0)):=by
    have e:qG ((N.take 0).map (up.kU n x) ++ N.drop 0)=qG M ++ recC x:=by rw[hN];simp[zq]
    rw[e];exact ZL
   have hh8:uE w8 b4 bn n:=⟨(World.cell?_of_block (a:=⟨b4,0,none⟩) (hk b4 hl5.2.2 HNE.out.2.1)).trans Ut.out.1,(World.cell?_of_block (a:=⟨bn,0,none⟩) (hk bn hl5.2.1 HNE.out.1)).trans Ut.out.2.1,Nat.lt_of_lt_of_le Ut.out.2.2.1 hB8.size,Nat.lt_of_lt_of_le Ut.out.2.2.2 hB8.size⟩
   have hT0:TtlI w wb w8 base st bx b4 bn g gc qf n x N 0:=⟨X0,ZL,(hk bx hl5.1 HNE.out.2.2).trans HK6.out,hh8,HBE6.out.trans hB8⟩
   have HT0:=Lib.hid hT0
   have HGN:=Lib.hid (show g≠bx∧g≠b4∧g≠bn∧g≠st from⟨hgn bx hl5.1,hgn b4 hl5.2.2,hgn bn hl5.2.1,fun e=>jb ZL X0 (by rw[e];rfl)⟩)
   have HSZ8:=Lib.hid (show bx<w8.heap.size∧base≤w8.heap.size from⟨Nat.lt_of_lt_of_le hl5.1 (Nat.le_trans h56 hB8.size),Nat.le_trans HSZ.out.2 hB8.size⟩)
   have HNN:=Lib.hid hN
   have hNb:N.length≤1000000001:=by omega
   have c8:w8.cell? ⟨st,1,none⟩=some (.slice (some ⟨g,0,none⟩) N.length gc):=by rw[qg X0];rfl
   clear hN hvne hl5 h56 hk hgn hh8 hT0 X0 ZL hB8 hk8 hg8 y0 y1 y2 y3 y4 c1 c1b
   go_wp2_with fail
   clear c8
   go_loopw [97,8] (fun jv _ wr=>∃j:Nat,j≤N.length∧jv= .int .i64 (j:Int)∧Hid (TtlI w wb wr base st bx b4 bn g gc qf n x N j∧w8.heap.size≤wr.heap.size)) (fun jv _ _=>N.length-(intOf jv).toNat)
   case atStart=>exact⟨0,Nat.zero_le _,rfl,Lib.hid ⟨HT0.out,Nat.le_refl _⟩⟩
   case round=>
    obtain⟨j,hj,rfl,HJ⟩:=hrel
    obtain⟨w9,hw9⟩:∃X:World,X=wr:=⟨_,rfl⟩
    subst hw9
    by_cases hlt:j<N.length
    ·have hji:(j:Int)<(N.length:Int):=by omega
     have hlen:=xJ (n:=n) (x:=x) (N:=N) j
     have Y6:qy w9 (.slice (some ⟨g,0,none⟩) N.length gc) ((N.take j).map (up.kU n x) ++ N.drop j):=qO (by rw[hlen];exact HJ.out.1.row)
     obtain⟨hgl,c0,c1,c2,c3,c4⟩:=zo Y6 (j:=j) (by rw[hlen];exact hlt)
     have hat:=UG (n:=n) (x:=x) hlt (by rw[hlen];exact hlt)
     obtain⟨y,hy⟩:∃y,y=N[j]:=⟨_,rfl⟩
     rw[← hy]at hat
     rw[hat]at c0 c1 c2 c3 c4
     simp only[Nat.zero_add]at c0 c1 c2 c3 c4
     obtain⟨wy,hwy⟩:∃W,W=w9.alloc (.cells (recC y).toArray 51):=⟨_,rfl⟩
     obtain⟨hBy,hsy,hyy⟩:=qM w9 wy y hwy
     obtain⟨by_,hby⟩:∃b,b=w9.heap.size:=⟨_,rfl⟩
     rw[← hby]at hyy
     have vW:by_<wy.heap.size:=by omega
     have hsz9:bx<w9.heap.size∧base≤w9.heap.size:=⟨Nat.lt_of_lt_of_le HSZ8.out.1 HJ.out.2,Nat.le_trans HSZ8.out.2 HJ.out.2⟩
     have HTY:=Lib.hid (HJ.out.1.under hsz9.1 hsz9.2 hBy)
     have hszy:bx<wy.heap.size∧base≤wy.heap.size:=by omega
     obtain⟨h4,hn4,l4,ln4⟩:=id HTY.out.here
     have CA:=Lib.hid (ZY y bn n wy ln4 hn4)
     have hcf:=uM
     obtain⟨x0,x1,x2,x3,x4⟩:=Qv.out wy HTY.out.YJ
     obtain⟨y0,y1,y2,y3,y4⟩:=id hyy
     obtain⟨hb,hhb⟩:∃hb,hb=yf n y:=⟨_,rfl⟩
     obtain⟨tb,htb⟩:∃tb,tb=decide (yf n y=true∧y.typ=x.typ∧x.typ≠46):=⟨_,rfl⟩
     have HTB:=Lib.hid htb;have HHB:=Lib.hid hhb;have HYY:=Lib.hid hyy;have QX:=Lib.hid vW;have HWY:=Lib.hid hwy;have HBY:=Lib.hid hby;have HY:=Lib.hid hy;have HSZY:=Lib.hid hszy;have HSY:=Lib.hid (show w8.heap.size≤wy.heap.size by have:=HJ.out.2;omega)
     have HLT:=Lib.hid hlt
     clear hlen Y6 hgl hat hwy hBy hsy hyy hby vW hsz9 hszy hn4 l4 ln4 hhb htb hy
     go_upto_region 20 with fail
     rw[← HWY.out,← HBY.out]
     clear c0 c1 c2 c3 c4
     go_cut [116] (fun t wx=>t= .bool tb∧Below wy.heap.size wy wx)
     case first=>
      go_wp2_with fail
      refine CA.out.mono ?_
      rintro e w10 ⟨rfl,jo⟩
      rw[← HHB.out]
      obtain⟨z0,z1,z2,z3,z4⟩:=Qv.out w10 ((jo.block bx HSZY.out.1).trans HTY.out.YJ)
      obtain⟨u0,u1,u2,u3,u4⟩:=HYY.out.keep (jo.block by_ QX.out)
      have zw:=Lib.hid jo
      clear jo x0 x1 x2 x3 x4 y0 y1 y2 y3 y4
      cases hb
      ·have HE:=Lib.hid (show tb=false by rw[HTB.out,← HHB.out];simp)
       go_wp2_with fail
       go_meet
       exact⟨by rw[HE.out],zw.out⟩
      ·by_cases k1:y.typ=x.typ
       ·have d1:(y.typ == x.typ)=true:=by rw[beq_iff_eq];exact k1
        by_cases k2:x.typ=46
        ·have d2:(x.typ != 46)=false:=by rw[bne_eq_false_iff_eq];exact k2
         have HE:=Lib.hid (show tb=false by rw[HTB.out];simp[k2])
         clear k1 k2
         go_wp2_with fail
         go_meet
         exact⟨by rw[HE.out],zw.out⟩
        ·have d2:(x.typ != 46)=true:=by rw[bne_iff_ne];exact k2
         have HE:=Lib.hid (show tb=true by rw[HTB.out,← HHB.out];simp[k1,k2])
         clear k1 k2
         go_wp2_with fail
         go_meet
         exact⟨by rw[HE.out],zw.out⟩
       ·have d1:(y.typ == x.typ)=false:=by rw[beq_eq_false_iff_ne];exact k1
        have HE:=Lib.hid (show tb=false by rw[HTB.out];simp[k1])
        clear k1
        go_wp2_with fail
        go_meet
        exact⟨by rw[HE.out],zw.out⟩
     case rest=>
      obtain⟨rfl,jo⟩:=hcut
      obtain⟨w10,hw10⟩:∃X:World,X=wc:=⟨_,rfl⟩
      subst hw10
      have Qc:=Lib.hid (HTY.out.under HSZY.out.1 HSZY.out.2 jo)
      have HS10:=Lib.hid (Nat.le_trans HSY.out jo.size)
      clear jo x0 x1 x2 x3 x4 y0 y1 y2 y3 y4 h4
      cases tb
      ·have HL:=Lib.hid (ttl_same (n:=n) (x:=x) HLT.out HY.out (of_decide_eq_false HTB.out.symm))
       go_wp2_with fail
       go_roundw
       case rel=>exact⟨j+1,by omega,by go_num,Lib.hid ⟨⟨Qc.out.stb,by rw[← HL.out];exact Qc.out.row,Qc.out.YJ,Qc.out.here,Qc.out.below⟩,HS10.out⟩⟩
       case measure=>simp[intOf];omega
      ·have HNT:=Lib.hid (ttl_store Qc.out HLT.out HY.out (of_decide_eq_true HTB.out.symm) ⟨HGN.out.1,HGN.out.2.1,HGN.out.2.2.1,HGN.out.2.2.2⟩)
       have HNS:=Lib.hid (show w8.heap.size≤(w10.setCell ⟨g,j*5+3,none⟩ (.int .i64 x.ttl)).drew.heap.size by
        show w8.heap.size≤(w10.setCell ⟨g,j*5+3,none⟩ (.int .i64 x.ttl)).heap.size
        simpa[World.setCell] using HS10.out)
       obtain⟨z0,z1,z2,z3,z4⟩:=Qv.out w10 Qc.out.YJ
       have c1:w10.cell? ⟨st,1,none⟩=some (.slice (some ⟨g,0,none⟩) N.length gc):=by rw[qg Qc.out.stb];rfl
       have J8:=Qc.out.row
       have k1:w10.cell? ⟨g,j*5+3,none⟩=some (.int .i64 y.ttl):=by
        have hrc:qy w10 (.slice (some ⟨g,0,none⟩) N.length gc) ((N.take j).map (up.kU n x) ++ N.drop j):=qO (by rw[xJ];exact J8)
        obtain⟨_,_,_,_,d3,_⟩:=zo hrc (j:=j) (by rw[xJ];exact HLT.out)
        rw[UG HLT.out (by rw[xJ];exact HLT.out),← HY.out]at d3
        simpa using d3
       have k2:w10.frozen? ⟨g,j*5+3,none⟩=false:=J8.frozenAt _
       clear J8
       go_upto_region 21 with fail
       go_region
       clear z0 z1 z2 z3 z4 c1 k1 k2
       go_wp2_with fail
       go_roundw
       case rel=>exact⟨j+1,by omega,by go_num,Lib.hid ⟨HNT.out,HNS.out⟩⟩
       case measure=>simp[intOf];omega
    ·obtain rfl:j=N.length:=by omega
     clear hlt
     go_wp2_with fail
     go_end0
     have hA:up.addC l x=N.map (up.kU n x):=by
      have h:=HADD.out
      (try simp only[Bool.false_eq_true,if_false]at h)
      rw[h,HNN.out,HM.out,HF.out,HL3.out]
     have hrow:=HJ.out.1.row
     rw[List.take_length,List.drop_length,List.append_nil]at hrow
     rw[hA]
     exact⟨rfl,⟨_,HJ.out.1.stb,HBS.out,by rw[List.length_map];exact hrow⟩,HJ.out.1.below⟩
 ·go_wp2_with fail
  go_end0
  exact⟨rfl,by rw[HADD.out];simpa using HSTV.out,HWV.out.mono HBL.out⟩
end Go.Proofs.YtdjjemajfphjaaaGreat
namespace Go.Proofs.YtdjjemajfphjaaaGreat
open Go.RowKit Go.Shelf nm od
namespace up
open zn (qD zh zf qW yX zJ kS)
theorem addc_law {qf:ByteArray}{l:List Rec}{x:Rec}(hx:ql x.owner=true)(hl:∀y∈l,ql y.owner=true)(h5:x.typ=5):addC l x=Z4 qf l x:=by
 have h6:x.typ≠6:=by omega
 unfold addC Z4
 rw[if_neg h6]
 have hany:(l.any fun y=>yf (qm x.owner) y && decide (y.typ≠5) && !ja y.typ)=l.any (fun y=>qz y.owner x.owner && ((decide (x.typ=5) && decide (y.typ≠5) && !yl y.typ) || (decide (x.typ≠5) && decide (y.typ=5) && !yl x.typ))):=by
  refine any_congr fun y hy=>?_
  rw[QL hx (hl y hy),show ja y.typ=yl y.typ from rfl]
  simp only[h5,decide_true,Bool.true_and,ne_eq,not_true_eq_false,decide_false,Bool.false_and,Bool.or_false,Bool.and_assoc]
 rw[hany]
 split
 ·rfl
 ·rw[List.map_append,List.map_cons,List.map_nil,ttl_self]
  congr 1
  have hf:((l.filter fun y=>!(yf (qm x.owner) y && decide (y.typ=5))).filter fun y=>!uP (zf x) y)=l.filter fun y=>!(qW x y || (decide (x.typ=5) && decide (y.typ=5) && qz x.owner y.owner)):=by
   rw[List.filter_filter]
   refine List.filter_congr fun y hy=>?_
   rw[QI hx (hl y hy),QL hx (hl y hy),Ke (hl y hy) hx]
   simp only[h5,decide_true,Bool.true_and]
   cases qW x y <;> cases qz x.owner y.owner <;> cases decide (y.typ=5) <;> rfl
  rw[hf]
  refine List.map_congr_left fun y hy=>?_
  have hy2:=hl y (List.mem_filter.1 hy).1
  unfold kU
  rw[QL hx hy2,Ke hy2 hx]
  by_cases he:qz x.owner y.owner=true
  ·by_cases ht:y.typ=x.typ <;> by_cases h4:x.typ=46 <;> simp[he,ht,h4]
  ·simp[he]
end up
theorem chgOk_cname {x:Rec}(h1:x.cls=1)(h5:x.typ=5)(hx:ql x.owner=true):VJ x:=by
 intro base st qf l w hl hin hb hs
 rw[if_pos h1]
 have h:=addc_any x h1 h5 base st qf l (by omega) w hb hs
 rw[up.addc_law hx (fun y hy=>(hin y hy).1) h5]at h
 have e:up.zO qf l x=up.Z4 qf l x:=by unfold up.zO;rw[if_pos h1]
 rw[e];exact h
end Go.Proofs.YtdjjemajfphjaaaGreat
