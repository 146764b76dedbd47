import Derived.Test.YtpcmilhjpmlbpaaGreatDoorQTrK
import Derived.Test.YtpcmilhjpmlbpaaGreatDoorQTrW
set_option maxRecDepth 100000
set_option maxHeartbeats 8000000
namespace Go.Proofs.YtpcmilhjpmlbpaaGreatDoor
open Go.RowKit Go.Shelf nm od
def QN (R:List Rec×Int)(w:World)(e:Ending)(w':World):Prop:=∃v,e= .returned (.tuple #[v,.int .i64 R.2])∧Below w.heap.size w w'∧w'.ownsRow w.heap.size 80 5 v R.1.length (qp R.1)
theorem kC {R:List Rec×Int}{c:Int}{w w':World}(h:R=([],c))(hB:Below w.heap.size w w'):QN R w (.returned (.tuple #[.slice none 0 0,.int .i64 c])) w':=by
 subst h;exact⟨_,rfl,hB,World.ownsRow_nil _ _ _ _⟩
theorem uH {R:List Rec×Int}{L:List Rec}{c:Int}{v:Value}{w w':World}(h:R=(L,c))(hB:Below w.heap.size w w')(ho:w'.ownsRow w.heap.size 80 5 v L.length (qp L)):QN R w (.returned (.tuple #[v,.int .i64 c])) w':=by
 subst h;exact⟨_,rfl,hB,ho⟩
namespace tr
theorem msg_facts {h:Hd}{qs:List Qn}{an au ad:List Rec}(h1:wi.jE h qs an au ad=true):(∀q∈qs,qo q.name=true)∧∀x∈au,Yv x∧(x.typ=6→x.data.size≠0→20≤x.data.size∧x.data.size≤65535):=by
 unfold wi.jE at h1;simp only[Bool.and_eq_true]at h1;refine⟨fun q hq=>?_,fun x hx=>?_⟩
 ·have h4:=List.all_eq_true.1 h1.1.1.1.2 q hq;unfold wi.qnB at h4;simp only[Bool.and_eq_true]at h4;exact h4.1.1
 ·have hr:=List.all_eq_true.1 h1.1.2 x hx;refine⟨right_ok hr,fun h6 hne=>?_⟩;unfold wi.qR at hr;simp only[Bool.and_eq_true]at hr;obtain⟨_,h5⟩:=hr;rw[if_neg (by omega),Bool.or_eq_true]at h5;rcases h5 with h | h
  ·unfold wi.jT at h;simp only[Bool.and_eq_true,decide_eq_true_eq]at h;omega
  ·have:=of_decide_eq_true h;rw[h6]at this;exact dt.QX this
end tr
theorem rrow_any (v:Value)(ys:List Nat)(H:List tr.Zn)(h0:0<ys.length)(h8:ys.length≤8)(hi:Int)(rs:Bool)(op:Int)(b3 b4 b5 b6 b7 b8:Bool)(rc:Int)(qs:List Qn)(an au ad:List Rec)(hmb:wi.jE ⟨hi,rs,op,b3,b4,b5,b6,b7,b8,rc⟩ qs an au ad=true)
 (q a u d:Value) (w:World) (hh:uW w v ys) (hz:Zg w ys H) (rq:yu w q qs) (ra:qm w a an) (ru:qm w u au) (rd:qm w d ad):
 Calls Tryz.prog 41 #[v,yZ ⟨hi,rs,op,b3,b4,b5,b6,b7,b8,rc⟩ q a u d] w fun e w'=>QN (tr.zL H op qs au) w e w':=by
 obtain⟨w1,hw1⟩:∃X,X=w.alloc (.cells (yG ⟨hi,rs,op,b3,b4,b5,b6,b7,b8,rc⟩ q a u d).toArray 33):=⟨_,rfl⟩;obtain⟨hB1,hs1,hm1⟩:=zC hw1;obtain⟨bm,hbm⟩:∃b,b=w.heap.size:=⟨_,rfl⟩;rw[← hbm]at hm1;obtain⟨n,hn⟩:∃n,n=ys.length:=⟨_,rfl⟩;obtain⟨n1,hn1⟩:∃n1,n1=n-1:=⟨_,rfl⟩;have hlen:=hz.1;have hOK:∀i (hi:i<ys.length),tr.Ok (tr.q8 H i)∧(tr.q8 H i).ap.size≤1099511627776∧xA w ys[i] (tr.q8 H i).ap (tr.q8 H i).l:=fun i hi=>by
  have hiH:i<H.length:=by omega
  rw[tr.uL hiH];exact hz.2 i hi hiH
 have hlast:tr.qN H=tr.q8 H n1:=by unfold tr.qN;congr 1;omega
 obtain⟨Z,hZ⟩:∃Z,Z=tr.q8 H n1:=⟨_,rfl⟩;rw[← hZ]at hlast;obtain⟨z0,hz0⟩:∃z,z=ys[n1]'(by omega):=⟨_,rfl⟩;obtain⟨ok0,ap0,rz0⟩:=hOK n1 (by omega);rw[← hZ,← hz0]at rz0;rw[← hZ]at ok0 ap0;obtain⟨g,off,cap,rfl,hcap,hgl,cz⟩:=id hh;have c1:=(hB1.cell (p:=⟨g,off+n1,none⟩) hgl).trans (cz n1 (by omega));rw[← hz0]at c1;obtain⟨mq,mu⟩:=tr.msg_facts hmb;have HM:=qe hm1;have HW1:=qe hw1;have HBM:=qe hbm;have HB1:=qe hB1;have HH:=qe (hh.below hB1);have HZS:=qe (hz.below hB1);have HOK:=qe hOK;have HZ:=qe (rz0.below hB1);have HOK0:=qe ok0;have HAP0:=qe ap0;have xE:=qe hlast;have HN:=qe hn;have HN1:=qe hn1;have H8:=qe h8;have H00:=qe h0;have HLN:=qe hlen;have HQ:=qe (rq.below hB1);have HU:=qe (ru.below hB1);have HMQ:=qe mq;have HMU:=qe mu;have HCAP:=qe hcap;have HCZ:=qe (show ∀X,Below w1.heap.size w1 X→∀k (hk:k<ys.length),X.cell? ⟨g,off+k,none⟩=some (qW ys[k]) from fun X hX k hk=>(hX.cell (p:=⟨g,off+k,none⟩) (Nat.lt_of_lt_of_le hgl hB1.size)).trans ((hB1.cell (p:=⟨g,off+k,none⟩) hgl).trans (cz k hk)));have e1:(n:Int)-1=(n1:Int):=by omega
 have e2:IntKind.i64.wrap (n1:Int)=(n1:Int):=IntWalk.i64_in _ (by omega);have e3:(n1:Int)<(n:Int):=by omega
 have e4:n1<n:=by omega
 obtain⟨qa,qc,rfl,-⟩:=id rq;obtain⟨aa,ac,rfl,-⟩:=id ra;obtain⟨ua,uc,rfl,-⟩:=id ru;obtain⟨da,dc,rfl,-⟩:=id rd;rw[← hn];clear hw1 hB1 hs1 hm1 hbm hn hn1 hlen hOK hlast hZ hz0 ok0 ap0 rz0 hcap hgl cz hh hz rq ra ru rd mq mu hmb h0 h8;obtain⟨m0,m1,m2,m3,m4,m5,m6,m7,m8,m9,m10,m11,m12,m13⟩:=(HM.out.below (Below.refl _ _)).facts
 go_enter Tryz.func41,Tryz.ntmps41
 go_upto_region 1 with fail;rw[← HW1.out,← HBM.out];go_upto_region 2 with fail;clear e1 e2 e3 e4 c1;by_cases hq1:qs.length=1
 ·have e4:((qs.length:Int) != 1)=false:=by rw[bne_eq_false_iff_eq];omega
  obtain⟨_,_,hv,-,hr0⟩:=id HQ.out;simp only[Value.slice.injEq,true_and]at hv;obtain⟨rfl,rfl⟩:=hv;obtain⟨qb,Xj,rfl,hqb,c0,c1,c2⟩:=hr0 0 (by omega);obtain⟨q0,hq0⟩:∃q0,q0=qs[0]'(by omega):=⟨_,rfl⟩;rw[← hq0]at c0 c1 c2;simp only[Nat.zero_mul,Nat.add_zero]at c0 c1 c2;have hqs:qs= [q0]:=by
   obtain⟨y,hy⟩:=List.length_eq_one_iff.1 hq1;have:q0=y:=by rw[hq0];simp[hy]
   rw[this,hy]
  have hl0:0<qs.length:=by omega
  obtain⟨w2,hw2⟩:∃W,W=w1.alloc (.cells (qnC q0).toArray 78):=⟨_,rfl⟩;obtain⟨hB2,hs2,hx2⟩:=Vh w1 w2 q0 hw2;obtain⟨bq,hbq⟩:∃b,b=w1.heap.size:=⟨_,rfl⟩;rw[← hbq]at hx2;have HQS:=qe hqs;have HW2:=qe hw2;have HBQ:=qe hbq;have HX2:=qe hx2;have HB2:=qe hB2;have HBQL:=qe (show bq<w2.heap.size by omega);clear hr0 hqb hq0 hqs hq1 hw2 hB2 hs2 hbq hx2;go_upto_region 5 with fail;rw[← HW2.out,← HBQ.out];clear c0 c1 c2 hl0 e4;clear m0 m1 m2 m3 m4 m5 m6 m7 m8 m9 m10 m11 m12 m13;obtain⟨m0,m1,m2,m3,m4,m5,m6,m7,m8,m9,m10,m11,m12,m13⟩:=(HM.out.below HB2.out).facts;have xW:=qe (HB1.out.trans (HB2.out.mono HB1.out.size));obtain⟨x0,x1,x2⟩:=id HX2.out;simp only[Nat.zero_add]at x1 x2;by_cases ho:op=0
  ·have e3:(op != 0)=false:=by rw[bne_eq_false_iff_eq];exact ho
   have HOP:=qe ho;clear ho;have hqsz:q0.name.size≤1099511627776:=by
    have:=qU (HMQ.out q0 (by rw[HQS.out];simp));omega
   have hz2:=HZ.out.below HB2.out;obtain⟨gz,capz,hzc,-⟩:=id hz2;have zc:w2.cell? ⟨z0,0,none⟩=some (.string Z.ap):=by rw[qh hzc];rfl
   obtain⟨ib,hib⟩:∃ib,ib=qF q0.name Z.ap:=⟨_,rfl⟩;have CE:Hid (∀p,Calls Tryz.prog 55 #[.string q0.name,.string Z.ap] (gw w2 p) fun e w''=>e= .returned (.bool ib)∧∃p',w''=gw w2 p'):=qe fun p=>by rw[hib];exact qV (zV q0.name Z.ap hqsz HAP0.out _)
   have HIB:=qe hib;have k0:=qf zc;have k1:=qf x0;have k2:=qf x2;clear hqsz hz2 hzc zc hib;by_cases kc:q0.cls=1
   ·have e6:(q0.cls != 1)=false:=by rw[bne_eq_false_iff_eq];exact kc
    go_upto_region 7 with fail;clear e3;refine ql (by kernel_rfl) (by kernel_rfl) ?_
    repeat (with_reducible refine wpQuiet_step (fun K hK=>?_);go_simp;(try simp only[undef]);first | (with_reducible refine hK _ ?_;clear hK K) | (apply Exists.intro;refine⟨fun _=>?_,hK _ ?_⟩;(first | (go_at_call 55;with_reducible exact CE.out _));clear hK K) | (with_reducible refine⟨fun _ h=>(by cases h),?_⟩;with_reducible refine hK _ ?_;clear hK K))
    refine wpQuiet_nil ?_
    (try simp only[show Value.tuple #[]=undef from rfl])
    intro U hU;have hBU:Below w2.heap.size w2 U:=by obtain⟨g,rfl⟩:=hU;exact qB _ g
    clear hU;have HB3:=qe (HB2.out.trans (hBU.mono HB2.out.size));have um:=qe (HB1.out.trans (HB3.out.mono HB1.out.size));have HU2:=qe hBU;clear hBU k0 k1 k2 e6
    cases ib
    ·have HRW:=qe (show tr.zL H op qs au=([],9) from(by rw[HQS.out];exact tr.XF HOP.out (by rw[xE.out,← HIB.out];simp)));go_wp2_with fail;go_ret2;exact kC HRW.out um.out
    ·have HC:=qe (show q0.cls=1∧qF q0.name (tr.qN H).ap=true from⟨kc,by rw[xE.out];exact HIB.out.symm⟩);clear kc;clear m0 m1 m2 m3 m4 m5 m6 m7 m8 m9 m10 m11 m12 m13;obtain⟨m0,m1,m2,m3,m4,m5,m6,m7,m8,m9,m10,m11,m12,m13⟩:=(HM.out.below HB3.out).facts;obtain⟨x0,x1,x2⟩:=HX2.out.keep (HU2.out.block bq HBQL.out);simp only[Nat.zero_add]at x1 x2;by_cases QJ:q0.typ=252
     ·have e7:(q0.typ == 252)=true:=by rw[beq_iff_eq];exact QJ
      have HRW:=qe (show tr.zL H op qs au=(tr.zX Z,0) by rw[HQS.out,tr.Va HOP.out HC.out QJ,xE.out]);clear QJ;go_wp2_with fail;refine(XX z0 Z HOK0.out HAP0.out U (HZ.out.below HB3.out)).mono ?_;rintro e w4 ⟨v4,rfl,hB4,jX⟩;have HF:=qe (uH HRW.out (um.out.trans (hB4.mono um.out.size)) (qG jX um.out.size));obtain⟨a4,c4,rfl,-⟩:=qi jX;clear hB4 jX;go_wp2_with fail;go_ret2;exact HF.out
     ·have e7:(q0.typ == 252)=false:=by rw[beq_eq_false_iff_ne];exact QJ
      by_cases Vr:q0.typ=251
      ·have e8:(q0.typ != 251)=false:=by rw[bne_eq_false_iff_eq];exact Vr
       have HK:=qe Vr;clear QJ Vr;by_cases hu1:au.length=1
       ·have e9:((au.length:Int) != 1)=false:=by rw[bne_eq_false_iff_eq];omega
        obtain⟨_,_,hv,-,hr0⟩:=HU.out.below HB3.out;simp only[Value.slice.injEq,true_and]at hv;obtain⟨rfl,rfl⟩:=hv;obtain⟨ub,uoff,rfl,hub,c0,c1,c2,c3,c4⟩:=hr0 0 (by omega);obtain⟨r0,hr0'⟩:∃r0,r0=au[0]'(by omega):=⟨_,rfl⟩;rw[← hr0']at c0 c1 c2 c3 c4;simp only[Nat.zero_mul,Nat.add_zero]at c0 c1 c2 c3 c4;have hau:au= [r0]:=by
         obtain⟨y,hy⟩:=List.length_eq_one_iff.1 hu1;have:r0=y:=by rw[hr0'];simp[hy]
         rw[this,hy]
        have hl0:0<au.length:=by omega
        have HAU:=qe hau;clear hr0 hub hr0' hau hu1;by_cases k6:r0.typ=6
        ·have e10:(r0.typ != 6)=false:=by rw[bne_eq_false_iff_eq];exact k6
         by_cases kd:r0.data.size=0
         ·have e11:=yQ kd;have HRW:=qe (show tr.zL H op qs au=([],1) by rw[HQS.out,HAU.out];exact tr.XG HOP.out HC.out HK.out (.inr kd));clear kd k6;go_wp2_with fail;go_ret2;exact kC HRW.out um.out
         ·have e11:=ji kd;have HDS:=qe ((HMU.out r0 (by rw[HAU.out];simp)).2 k6 kd);have HRW:=qe (show tr.zL H op qs au=tr.J4 H (up.QI r0.data) by rw[HQS.out,HAU.out];exact tr.row_step HOP.out HC.out HK.out k6 kd);clear kd k6;go_upto_region 15 with fail;clear e7 e8 e9 e10 e11 x0 x1 x2;obtain⟨sn,hsn⟩:∃s,s=up.QI r0.data:=⟨_,rfl⟩;have HSN:=qe (rserial7_any r0 HDS.out.1 (by have:=HDS.out.2;omega) U);rw[← hsn]at HSN HRW;clear hsn;go_wp2_with fail;refine HSN.out.mono ?_;rintro e w4 ⟨rfl,hB4⟩;have HB4:=qe (HB3.out.trans (hB4.mono HB3.out.size));clear hB4 c0 c1 c2 c3 c4 hl0;clear m0 m1 m2 m3 m4 m5 m6 m7 m8 m9 m10 m11 m12 m13;go_wp2_with fail;refine(Y9 z0 Z HOK0.out w4 (HZ.out.below HB4.out)).mono ?_;rintro e w5 ⟨rfl,hB5⟩;have HB5:=qe (HB4.out.trans (hB5.mono HB4.out.size));clear hB5;obtain⟨nb,hnb⟩:∃b,b=tr.zR (tr.yA Z) sn:=⟨_,rfl⟩;have CN:=qe (show Calls Tryz.prog 9 #[.int .i64 (tr.yA Z),.int .i64 sn] w5 fun e w'=>e= .returned (.bool nb)∧w'=w5 by rw[hnb];exact KC _ _ w5);have HNB:=qe hnb;clear hnb;go_wp2_with fail;refine CN.out.mono ?_;rintro e wN ⟨rfl,hE⟩;obtain rfl:=hE.symm;clear hE;have Y0:=qe (HB1.out.trans (HB5.out.mono HB1.out.size))
          cases nb
          ·have HRS:=qe (show tr.zL H op qs au=([tr.ze Z],0) by rw[HRW.out];unfold tr.J4;rw[xE.out,if_pos HNB.out.symm]);obtain⟨r,hr⟩:∃r,r=tr.ze Z:=⟨_,rfl⟩;have hS:=Y8 z0 Z HOK0.out HAP0.out w5 (HZ.out.below HB5.out);rw[← hr]at hS HRS;have HS:=qe hS;clear hr hS;go_wp2_with fail;refine HS.out.mono ?_;rintro e w6 ⟨rfl,hB6⟩;have HB6:=qe (Y0.out.trans (hB6.mono Y0.out.size));clear hB6;obtain⟨w7,hw⟩:∃X,X=w6.alloc (.cells (recC r).toArray 80):=⟨_,rfl⟩;obtain⟨hBn,-,-⟩:=qY w6 w7 r hw;obtain⟨gw7,hg⟩:∃b,b=w6.heap.size:=⟨_,rfl⟩;have hon:=jK (base:=w.heap.size) r hw HB6.out.size;rw[← hg]at hon;have HWw7:=qe hw;have HGw7:=qe hg;have UL:=qe hon;have HBNw7:=qe hBn;have HBw7:=qe (HB6.out.trans (hBn.mono HB6.out.size));clear hw hg hon hBn;have HF:=qe (uH HRS.out HBw7.out UL.out);go_wp2_with fail;go_ret2;rw[← HWw7.out,← HGw7.out];exact HF.out
          ·have HRS:=qe (show tr.zL H op qs au=if 0≤tr.frI H sn n∧(tr.zF H (tr.frI H sn n).toNat).length≤(tr.zX Z).length then(tr.zF H (tr.frI H sn n).toNat,0) else(tr.zX Z,0) by
            rw[HRW.out];unfold tr.J4;rw[xE.out,if_neg (by rw[← HNB.out];simp),← HLN.out,← HN.out])
           clear HRW;go_wp2_with fail
           go_loopw [87,9] (fun kv fv wr=>∃k:Nat,k≤n∧kv= .int .i64 (k:Int)∧fv= .int .i64 (tr.frI H sn k)∧Hid (Below w1.heap.size w1 wr)) (fun kv _ _=>n-(intOf kv).toNat)
           case atStart=>exact⟨0,Nat.zero_le _,rfl,rfl,HB5⟩
           case round=>
            obtain⟨k,hk,rfl,rfl,HB⟩:=hrel;obtain⟨w6,hw6⟩:∃X:World,X=wr:=⟨_,rfl⟩;subst hw6;obtain⟨f,hf⟩:∃f,f=tr.frI H sn k:=⟨_,rfl⟩;rw[← hf];by_cases hlt:k<n
            ·have hki:(k:Int)<(n:Int):=by omega
             have ew:IntKind.i64.wrap ((k:Int)+1)=(k:Int)+1:=IntWalk.i64_in _ (by have:=H8.out;have:=HN.out;omega);have hkn:k<ys.length:=by rw[← HN.out];exact hlt
             have cy:=HCZ.out w6 HB.out k hkn;obtain⟨yk,hyk⟩:∃y,y=ys[k]:=⟨_,rfl⟩;rw[← hyk]at cy;obtain⟨A,hA⟩:∃A,A=tr.q8 H k:=⟨_,rfl⟩;obtain⟨ok1,-,zf1⟩:=HOK.out k hkn;rw[← hA,← hyk]at zf1;rw[← hA]at ok1;have HSA:=qe (Y9 yk A ok1 w6 (zf1.below (HB1.out.trans (HB.out.mono HB1.out.size))));have HNX:=qe (show tr.frI H sn (k+1)=if tr.yA A=sn then(k:Int) else f by rw[hf,hA];rfl);clear hyk hA ok1 zf1 hf hkn;obtain⟨sa,hsa⟩:∃s,s=tr.yA A:=⟨_,rfl⟩;rw[← hsa]at HSA HNX;clear hsa;go_wp2_with fail;refine HSA.out.mono ?_;rintro e w7 ⟨rfl,hB7⟩;have HB7:=qe (HB.out.trans (hB7.mono HB.out.size));clear hB7 cy;by_cases he:sa=sn
             ·have e1:(sa == sn)=true:=by rw[beq_iff_eq];exact he
              have HNY:=qe (show tr.frI H sn (k+1)=(k:Int) by rw[HNX.out,if_pos he]);clear he;go_wp2_with fail
              go_roundw
              case rel=>have h8:=H8.out;have hnn:=HN.out;exact⟨k+1,by omega,by go_num,by rw[HNY.out],HB7⟩
              case measure=>have h8:=H8.out;have hnn:=HN.out;simp[intOf];omega
             ·have e1:(sa == sn)=false:=by rw[beq_eq_false_iff_ne];exact he
              have HNY:=qe (show tr.frI H sn (k+1)=f by rw[HNX.out,if_neg he]);clear he;go_wp2_with fail
              go_roundw
              case rel=>have h8:=H8.out;have hnn:=HN.out;exact⟨k+1,by omega,by go_num,by rw[HNY.out],HB7⟩
              case measure=>have h8:=H8.out;have hnn:=HN.out;simp[intOf];omega
            ·obtain rfl:k=n:=by omega
             rw[← hf]at HRS;have HFC:=qe (show f= -1∨∃j:Nat,j<k∧f=(j:Int) by rw[hf];exact tr.fr_cases H sn k);clear hf hlt hk;have VG:=qe (HB1.out.trans (HB.out.mono HB1.out.size));go_wp2_with fail;refine(XX z0 Z HOK0.out HAP0.out w6 (HZ.out.below HB.out)).mono ?_;rintro e w7 ⟨v7,rfl,hB7,Kl⟩;have HB7:=qe (HB.out.trans (hB7.mono HB.out.size));have HB17:=qe (HB1.out.trans (HB7.out.mono HB1.out.size));have HO7:=qe (qG Kl VG.out.size);obtain⟨W,hW⟩:∃W,W=tr.zX Z:=⟨_,rfl⟩;rw[← hW]at HO7 HRS Kl;obtain⟨a7,c7,rfl,-⟩:=qi Kl;clear hB7 Kl hW;rcases HFC.out with rfl | ⟨j,hj,rfl⟩
             ·have HF:=qe (uH (HRS.out.trans (if_neg (by simp))) HB17.out HO7.out);go_wp2_with fail;go_ret2;exact HF.out
             ·have HST:=qe (show Calls Tryz.prog 74 #[.slice (some ⟨g,off+j,none⟩) (k-j) (cap-j)] w7 fun e w'=>yn (tr.zF H j) w7 e w' by
               have hk:=HN.out;have hjH:j<H.length:=by have:=HLN.out;omega
               have hl:(ys.drop j).length=k-j:=by rw[List.length_drop,hk]
               have h:=rsteps_any (.slice (some ⟨g,off+j,none⟩) (k-j) (cap-j)) (ys.drop j) (H.drop j) (by omega) (by have:=H8.out;omega) w7
                ⟨g,off+j,cap-j,by rw[hl],by rw[hl];have:=HCAP.out;omega,by
                 have h1:=HCZ.out w7 HB7.out 0 (by omega);exact World.block_lt_of_cell? _ _ h1,fun i hi=>by
                 rw[hl]at hi;rw[Nat.add_assoc,HCZ.out w7 HB7.out (j+i) (by omega),List.getElem_drop]⟩
                ⟨by rw[List.length_drop,List.length_drop,HLN.out],fun i h1 h2=>by
                 rw[hl]at h1;have:=(HZS.out.below HB7.out).2 (j+i) (by omega) (by have:=HLN.out;omega);simp only[List.getElem_drop];exact this⟩
               rw[tr.steps_drop H j hjH]at h;exact h)
              have i1:(j:Int)≤(k:Int):=by omega
              have i2:j≤k:=by omega
              have i3:k≤cap:=by have:=HCAP.out;have:=HN.out;omega
              have i4:¬(cap=j):=by omega
              have i5:(0:Int)≤(j:Int):=by omega
              have HRT:=qe (show tr.zL H op qs au=if(tr.zF H j).length≤W.length then(tr.zF H j,0) else(W,0) by
               rw[HRS.out,Int.toNat_natCast];by_cases hc:(tr.zF H j).length≤W.length
               ·rw[if_pos ⟨i5,hc⟩,if_pos hc]
               ·rw[if_neg (fun hh=>hc hh.2),if_neg hc])
              clear hj;go_wp2_with fail;refine HST.out.mono ?_;rintro e w8 ⟨v8,rfl,hB8,Kk⟩;have HB8:=qe (HB17.out.trans (hB8.mono HB17.out.size));have HO78:=qe (ownsRow_below HO7.out hB8);have HO8:=qe (qG Kk HB17.out.size);obtain⟨T,hT⟩:∃T,T=tr.zF H j:=⟨_,rfl⟩;rw[← hT]at HO8 HRT Kk;obtain⟨a8,c8,rfl,-⟩:=qi Kk;clear hB8 Kk hT i1 i2 i3 i4 i5;by_cases hc:T.length≤W.length
              ·have e1:decide ((T.length:Int)≤(W.length:Int))=true:=decide_eq_true (by omega);have HF:=qe (uH (HRT.out.trans (if_pos hc)) HB8.out HO8.out);go_wp2_with fail;go_ret2;exact HF.out
              ·have e1:decide ((T.length:Int)≤(W.length:Int))=false:=decide_eq_false (by omega);have HF:=qe (uH (HRT.out.trans (if_neg hc)) HB8.out HO78.out);go_wp2_with fail;go_ret2;exact HF.out
        ·have e10:(r0.typ != 6)=true:=by rw[bne_iff_ne];exact k6
         have HRW:=qe (show tr.zL H op qs au=([],1) by rw[HQS.out,HAU.out];exact tr.XG HOP.out HC.out HK.out (.inl k6));clear k6;go_wp2_with fail;go_ret2;exact kC HRW.out um.out
       ·have e9:((au.length:Int) != 1)=true:=by rw[bne_iff_ne];omega
        have HRW:=qe (show tr.zL H op qs au=([],1) by rw[HQS.out];exact tr.row_auth HOP.out HC.out HK.out hu1);clear hu1;go_wp2_with fail;go_ret2;exact kC HRW.out um.out
      ·have e8:(q0.typ != 251)=true:=by rw[bne_iff_ne];exact Vr
       have HRW:=qe (show tr.zL H op qs au=([],5) by rw[HQS.out];exact tr.row_other HOP.out HC.out QJ Vr);clear Vr QJ;go_wp2_with fail;go_ret2;exact kC HRW.out um.out
   ·have e6:(q0.cls != 1)=true:=by rw[bne_iff_ne];exact kc
    go_upto_region 7 with fail;clear e3;refine ql (by kernel_rfl) (by kernel_rfl) ?_
    repeat (with_reducible refine wpQuiet_step (fun K hK=>?_);go_simp;(try simp only[undef]);first | (with_reducible refine hK _ ?_;clear hK K))
    refine wpQuiet_nil ?_
    (try simp only[show Value.tuple #[]=undef from rfl])
    intro U hU;have hBU:Below w2.heap.size w2 U:=by obtain⟨g,rfl⟩:=hU;exact qB _ g
    clear hU;have HB3:=qe (HB2.out.trans (hBU.mono HB2.out.size));have um:=qe (HB1.out.trans (HB3.out.mono HB1.out.size));clear hBU k0 k1 k2 e6;have HRW:=qe (show tr.zL H op qs au=([],9) from(by rw[HQS.out];exact tr.XF HOP.out (fun hh=>kc hh.1)));go_wp2_with fail;go_ret2;exact kC HRW.out um.out
  ·have e3:(op != 0)=true:=by rw[bne_iff_ne];exact ho
   have HRW:=qe (show tr.zL H op qs au=([],4) from(by rw[HQS.out];exact tr.row_op ho));go_wp2_with fail;go_ret2;exact kC HRW.out xW.out
 ·have e4:((qs.length:Int) != 1)=true:=by rw[bne_iff_ne];omega
  have HRW:=qe (show tr.zL H op qs au=([],1) from(tr.row_many hq1));go_wp2_with fail;go_ret2;exact kC HRW.out HB1.out
@[reducible] def hdA (h:Hd) (t:Bool) (c:Int):Hd:=⟨h.id,true,h.op,t,false,h.rd,false,false,h.cd,c⟩
namespace tr
def jF (l:List Rec)(i:Nat):List Rec:=(l.drop (i*16)).take 16
def vW (l:List Rec):Nat:=max 1 ((l.length+15) / 16)
def Q3 (h:Hd)(qs:List Qn)(P:List (List Rec)):List Msg:=P.map fun p=>⟨h,qs,p,[],[]⟩
def jg (l:List Rec)(n:Nat):List (List Rec):=(List.range n).map (jF l)
theorem parts_next (l:List Rec)(n:Nat):jg l (n+1)=jg l n ++ [jF l n]:=by
 unfold jg;rw[List.range_succ,List.map_append,List.map_singleton]
theorem Yc (l:List Rec)(n:Nat):(jg l n).length=n:=by unfold jg;simp
theorem Jb (l:List Rec)(i:Nat):(jF l i).length≤16:=by unfold jF;rw[List.length_take];omega
def uV (H:List Zn)(M:Msg):List Msg:=if M.h.Um=true∨wi.jE M.h M.qs M.an M.au M.ad=false then [] else
 Q3 (hdA M.h ((zL H M.h.op M.qs M.au).2 == 0) (zL H M.h.op M.qs M.au).2) M.qs (jg (zL H M.h.op M.qs M.au).1 (vW (zL H M.h.op M.qs M.au).1))
theorem ZW (z:Zn):(zX z).length=(qP z.l).length+2:=by unfold zX;simp
theorem rowS_facts (H:List Zn)(s:Int)(h:(qN H).l.length≤2000):(J4 H s).2=0∧(J4 H s).1≠[]∧(J4 H s).1.length≤2002:=by
 have h1:=ZW (qN H);have h2:(qP (qN H).l).length≤(qN H).l.length:=List.length_filter_le _ _;unfold J4
 split
 ·exact⟨rfl,by simp,by simp⟩
 ·split
  ·rename_i hc
   refine⟨rfl,?_,by have:=hc.2;simp only;omega⟩;unfold zF;simp
  ·refine⟨rfl,?_,by simp only;omega⟩;unfold zX;simp
theorem X6 (H:List Zn)(op:Int)(qs:List Qn)(au:List Rec)(h:(qN H).l.length≤2000):
 ((zL H op qs au).2=0∧(zL H op qs au).1≠[]∧(zL H op qs au).1.length≤2002)∨((zL H op qs au).2≠0∧(zL H op qs au).1= []):=by
 have h1:=ZW (qN H);have h2:(qP (qN H).l).length≤(qN H).l.length:=List.length_filter_le _ _;unfold zL
 split
 ·split
  ·exact .inr ⟨by decide,rfl⟩
  ·split
   ·exact .inr ⟨by decide,rfl⟩
   ·split
    ·exact .inl ⟨rfl,by unfold zX;simp,by simp only;omega⟩
    ·split
     ·exact .inr ⟨by decide,rfl⟩
     ·split
      ·split
       ·exact .inr ⟨by decide,rfl⟩
       ·exact .inl (rowS_facts H _ h)
      ·exact .inr ⟨by decide,rfl⟩
 ·exact .inr ⟨by decide,rfl⟩
theorem partN_in {l:List Rec}(h:l≠[]):l.length≤vW l*16∧vW l*16<l.length+16∧1≤vW l:=by
 have:=List.length_pos_iff.2 h;unfold vW;omega
end tr
def uN (h:Hd)(P:List (Value×Value)):List Value:=P.flatMap fun p=>yG h p.1 p.2 (.slice none 0 0) (.slice none 0 0)
theorem JS (h:Hd)(P:List (Value×Value))(p:Value×Value):uN h (P ++ [p])=uN h P ++ yG h p.1 p.2 (.slice none 0 0) (.slice none 0 0):=by
 unfold uN;rw[List.flatMap_append,List.flatMap_singleton]
theorem Vl (h:Hd):∀(P:List (Value×Value)) (k:Nat) (hk:k<P.length) (j:Nat) (x:Value),(yG h P[k].1 P[k].2 (.slice none 0 0) (.slice none 0 0))[j]? =some x→(uN h P)[k*14+j]? =some x
 | p :: P,0,_,j,x,hx=>by
   unfold uN;rw[List.flatMap_cons,Nat.zero_mul,Nat.zero_add,List.getElem?_append_left (by simpa using (List.getElem?_eq_some_iff.1 hx).1)];exact hx
 | p :: P,k+1,hk,j,x,hx=>by
   have h1:=Vl h P k (by simpa using hk) j x hx;unfold uN at h1 ⊢;rw[List.flatMap_cons,List.getElem?_append_right (by simp;omega)];rw[show(k+1)*14+j-(yG h p.1 p.2 (.slice none 0 0) (.slice none 0 0)).length=k*14+j by simp;omega];exact h1
theorem msgs_row {base:Nat}{w:World}{v:Value}{h:Hd}{qs:List Qn}{P:List (Value×Value)}{L:List (List Rec)}(hn:P.length=L.length)(ho:w.ownsRow base 33 14 v P.length (uN h P))
 (hq:∀k (hk:k<P.length),yu w P[k].1 qs) (hr:∀k (hk:k<P.length) (hk2:k<L.length),qm w P[k].2 L[k]) (hql:qs.length≤1000000000000) (hrl:∀p∈L,p.length≤1000000000000):jB w v (tr.Q3 h qs L):=by
 obtain⟨a,cap,rfl,hc⟩:=qi ho;have hlen:(tr.Q3 h qs L).length=P.length:=by unfold tr.Q3;rw[List.length_map,hn]
 refine⟨a,cap,by rw[hlen],by rw[hlen];exact hc,fun k hk=>?_⟩;have hk1:k<P.length:=by rw[← hlen];exact hk
 have hk2:k<L.length:=by rw[← hn];exact hk1
 rcases ho.2 with⟨h0,h1⟩|⟨g,cap',cur,hv,hb,hg,rest⟩
 ·omega
 ·simp only[Value.slice.injEq,true_and]at hv;obtain⟨rfl,rfl⟩:=hv;have e:(tr.Q3 h qs L)[k]=⟨h,qs,L[k],[],[]⟩:=List.getElem_map ..;refine⟨g,0,P[k].1,P[k].2,.slice none 0 0,.slice none 0 0,rfl,qA hg,?_,?_,?_⟩
  ·rw[e];intro j x hx;have h3:=ho.cells (g:=g) rfl (k*14+j) x (Vl h P k hk1 j x hx);rw[Addr.add_lit,Nat.zero_add]at h3;rw[Nat.zero_add];exact h3
  ·rw[e];exact⟨hq k hk1,hr k hk1 hk2,⟨none,0,rfl,Nat.le_refl _,fun _ h=>absurd h (Nat.not_lt_zero _)⟩,⟨none,0,rfl,Nat.le_refl _,fun _ h=>absurd h (Nat.not_lt_zero _)⟩⟩
  ·rw[e];exact⟨hql,hrl _ (List.getElem_mem hk2),by simp,by simp⟩
namespace zn
theorem within_fold {n a b:ByteArray}(hn:qo n=true)(ha:qo a=true)(hb:qo b=true)(h:qx a=qx b):zB n a=zB n b:=by
 obtain⟨x,hx⟩:=yN hn;obtain⟨y,hy⟩:=yN ha;obtain⟨z,hz⟩:=yN hb;have h1:=(fold_eq hy hz).1 h;have h2:y.length=z.length:=by rw[← Q6 y,h1,Q6]
 have h3:zB n a=true↔zB n b=true:=by rw[Zm hx hy,Zm hx hz,h1,h2]
 cases e1:zB n a <;> cases e2:zB n b <;> simp_all
theorem V9 {n a b:ByteArray}(hn:qo n=true)(ha:qo a=true)(hb:qo b=true)(h:qx a=qx b):qF n a=qF n b:=by
 have h3:qF n a=true↔qF n b=true:=by rw[zM hn ha,zM hn hb,h]
 cases e1:qF n a <;> cases e2:qF n b <;> simp_all
theorem rules_fold {a b:ByteArray}{l:List Rec}(ha:qo a=true)(hb:qo b=true)(h:qx a=qx b)(hl:∀r∈l,qo r.owner=true):zU a l=zU b l:=by
 have e:Qf a l=Qf b l:=by
  funext k
  unfold Qf
  cases hk:l[k]? with
  | none=>rfl
  | some r=>
    have hm:r∈l:=List.mem_of_getElem? hk;simp only;unfold Jv;rw[V9 (hl r hm) ha hb h]
 unfold zU;rw[e,h]
theorem valid_fold {a b:ByteArray}{l:List Rec}(hv:Valid a l)(hb:qo b=true)(h:qx a=qx b):Valid b l:=
 ⟨hb,hv.small,fun r hr=>⟨(hv.each r hr).1,(hv.each r hr).2.1,by rw[← within_fold (hv.each r hr).1 hv.ap hb h];exact(hv.each r hr).2.2⟩,by
  rw[← rules_fold hv.ap hb h fun r hr=>(hv.each r hr).1];exact hv.rules⟩
theorem KI {a:ByteArray}{l:List Rec}(hv:Valid a l):yO a l=none:=by
 have h1:kg a l=none:=by
  unfold kg;rw[vw.2 fun r hr=>(hv.each r hr).2.1];simp only;rw[vw.2 fun r hr=>by rw[(hv.each r hr).2.2];rfl]
 unfold yO;rw[if_neg (by rw[hv.ap];simp),if_neg (by have:=hv.small;omega),h1];exact hv.rules
theorem vF {a:ByteArray}{l:List Rec}(hv:Valid a l):l.Nodup:=
 (zn.Qm (zn.Zx hv.rules)).imp fun h e=>h (by rw[e])
theorem XR {a:ByteArray}{l:List Rec}(hv:Valid a l):Uniq l:=uniq_of (zn.Qm (zn.Zx hv.rules))
theorem valid_perm {a:ByteArray}{l l':List Rec}(hv:Valid a l)(hp:l.Perm l'):Valid a l':=Y3 (newE_of hp (KI hv))
end zn
namespace tr
abbrev St:=Rec×Bool×List Rec
def jw (first:Rec):St→List Rec→Int×List Rec
 | _,[]=>(10,[])
 | (now,goes,l),x :: t=>
   if x.typ=6 then
    if goes=true then jw first (x,false,l) t
    else if x=now∧t= []∧x=first then(0,l ++ [now])
    else if x≠now then(30,[])
    else jw first (now,true,l) t
   else if goes=true then(if x∈l then jw first (now,true,l.erase x) t else(28,[]))
   else if x∈l then(19,[]) else jw first (now,false,l ++ [x]) t
section
variable {first now x:Rec}{goes:Bool}{l t:List Rec}
theorem run_nil {s:St}:jw first s []=(10,[]):=by unfold jw;rfl
theorem run_turn (h:x.typ=6):jw first (now,true,l) (x :: t)=jw first (x,false,l) t:=by rw[jw];rw[if_pos h,if_pos rfl]
theorem run_end (h:x.typ=6)(h1:x=now)(h2:t= [])(h3:x=first):jw first (now,false,l) (x :: t)=(0,l ++ [now]):=by rw[jw];rw[if_pos h,if_neg (by simp),if_pos ⟨h1,h2,h3⟩]
theorem run_old (h:x.typ=6)(h1:x≠now):jw first (now,false,l) (x :: t)=(30,[]):=by rw[jw];rw[if_pos h,if_neg (by simp),if_neg (fun h=>h1 h.1),if_pos h1]
theorem U4 (h:x.typ=6)(h1:x=now)(h2:¬(t= []∧x=first)):jw first (now,false,l) (x :: t)=jw first (now,true,l) t:=by rw[jw];rw[if_pos h,if_neg (by simp),if_neg (fun h=>h2 h.2),if_neg (by simp[h1])]
theorem run_del (h:x.typ≠6)(h1:x∈l):jw first (now,true,l) (x :: t)=jw first (now,true,l.erase x) t:=by rw[jw];rw[if_neg h,if_pos rfl,if_pos h1]
theorem run_none (h:x.typ≠6)(h1:x∉l):jw first (now,true,l) (x :: t)=(28,[]):=by rw[jw];rw[if_neg h,if_pos rfl,if_neg h1]
theorem run_add (h:x.typ≠6)(h1:x∉l):jw first (now,false,l) (x :: t)=jw first (now,false,l ++ [x]) t:=by rw[jw];rw[if_neg h,if_neg (by simp),if_neg h1]
theorem run_twice (h:x.typ≠6)(h1:x∈l):jw first (now,false,l) (x :: t)=(19,[]):=by rw[jw];rw[if_neg h,if_neg (by simp),if_pos h1]
end
def Zu (first:Rec)(s:St)(x:Rec):Option St:=
 if x.typ=6 then(if s.2.1=true then some (x,false,s.2.2) else if x=s.1∧x≠first then some (s.1,true,s.2.2) else none)
 else if s.2.1=true then(if x∈s.2.2 then some (s.1,true,s.2.2.erase x) else none) else if x∈s.2.2 then none else some (s.1,false,s.2.2 ++ [x])
theorem run_step {first:Rec}{s s':St}{x:Rec}{t:List Rec}(h:Zu first s x=some s'):jw first s (x :: t)=jw first s' t:=by
 obtain⟨now,goes,l⟩:=s;unfold Zu at h;simp only at h;by_cases h6:x.typ=6
 ·rw[if_pos h6]at h
  cases goes
  ·rw[if_neg (by simp)]at h
   split at h
   ·rename_i h1
    obtain rfl:=Option.some.inj h;exact U4 h6 h1.1 fun h2=>h1.2 h2.2
   ·cases h
  ·rw[if_pos rfl]at h;obtain rfl:=Option.some.inj h;exact run_turn h6
 ·rw[if_neg h6]at h
  cases goes
  ·rw[if_neg (by simp)]at h
   split at h
   ·cases h
   ·rename_i h1
    obtain rfl:=Option.some.inj h;exact run_add h6 h1
  ·rw[if_pos rfl]at h
   split at h
   ·rename_i h1
    obtain rfl:=Option.some.inj h;exact run_del h6 h1
   ·cases h
def goO (first:Rec):St→List Rec→Option St
 | s,[]=>some s
 | s,x :: P=>(Zu first s x).bind fun s'=>goO first s' P
theorem go_app (first:Rec):∀(s:St) (P Q:List Rec),goO first s (P ++ Q)=(goO first s P).bind fun s'=>goO first s' Q
 | s,[],Q=>rfl
 | s,x :: P,Q=>by
   rw[List.cons_append,goO,goO]
   cases h:Zu first s x with
   | none=>rfl
   | some s'=>exact go_app first s' P Q
theorem run_go {first:Rec}:∀{s s':St} {P t:List Rec},goO first s P=some s'→jw first s (P ++ t)=jw first s' t
 | s,s',[],t,h=>by rw[goO]at h;obtain rfl:=Option.some.inj h;rfl
 | s,s',x :: P,t,h=>by
   rw[goO]at h
   cases h1:Zu first s x with
   | none=>rw[h1]at h;cases h
   | some s1=>
     rw[h1]at h;rw[List.cons_append,run_step h1];exact run_go (P:=P) h
theorem go_take {first:Rec}:∀{s s':St} {P:List Rec} (k:Nat),goO first s P=some s'→∃s'',goO first s (P.take k)=some s''
 | s,s',[],k,_=>⟨s,by rw[List.take_nil];rfl⟩
 | s,s',x :: P,0,_=>⟨s,by rw[List.take_zero];rfl⟩
 | s,s',x :: P,k+1,h=>by
   rw[goO]at h
   cases h1:Zu first s x with
   | none=>rw[h1]at h;cases h
   | some s1=>
     rw[h1]at h;obtain⟨s2,h2⟩:=go_take k (P:=P) h;exact⟨s2,by rw[List.take_succ_cons,goO,h1];exact h2⟩
theorem go_dels (first now:Rec):∀(D l:List Rec),D.Nodup→(∀x∈D,x.typ≠6∧x∈l)→l.Nodup→∃l',goO first (now,true,l) D=some (now,true,l')∧l'.Nodup∧∀x,x∈l'↔x∈l∧x∉D
 | [],l,_,_,hl=>⟨l,rfl,hl,fun x=>by simp⟩
 | d :: D,l,hd,hD,hl=>by
   obtain⟨h1,h2⟩:=List.nodup_cons.1 hd;obtain⟨h6,hm⟩:=hD d (by simp);obtain⟨l',e,h3,h4⟩:=go_dels first now D (l.erase d) h2 (fun x hx=>⟨(hD x (by simp[hx])).1,(hl.mem_erase_iff).2 ⟨fun e=>h1 (e ▸ hx),(hD x (by simp[hx])).2⟩⟩) (hl.erase d)
   refine⟨l',?_,h3,fun x=>?_⟩
   ·rw[goO];have:Zu first (now,true,l) d=some (now,true,l.erase d):=by unfold Zu;rw[if_neg h6];simp[hm]
    rw[this];exact e
   ·rw[h4 x,hl.mem_erase_iff,List.mem_cons];constructor
    ·rintro⟨⟨h5,h6⟩,h7⟩;exact⟨h6,fun h=>h.elim h5 h7⟩
    ·rintro⟨h5,h6⟩;exact⟨⟨fun e=>h6 (.inl e),h5⟩,fun e=>h6 (.inr e)⟩
theorem go_adds (first now:Rec):∀(D l:List Rec),D.Nodup→(∀x∈D,x.typ≠6∧x∉l)→goO first (now,false,l) D=some (now,false,l ++ D)
 | [],l,_,_=>by rw[List.append_nil];rfl
 | d :: D,l,hd,hD=>by
   obtain⟨h1,h2⟩:=List.nodup_cons.1 hd;obtain⟨h6,hm⟩:=hD d (by simp);rw[goO];have:Zu first (now,false,l) d=some (now,false,l ++ [d]):=by unfold Zu;rw[if_neg h6];simp[hm]
   rw[this];have h3:=go_adds first now D (l ++ [d]) h2 fun x hx=>⟨(hD x (by simp[hx])).1,fun h=>by
    rcases List.mem_append.1 h with h | h
    ·exact(hD x (by simp[hx])).2 h
    ·exact h1 (List.mem_singleton.1 h ▸ hx)⟩
   show goO first (now,false,l ++ [d]) D=_
   rw[h3,List.append_assoc];rfl
theorem uz {l:List Rec}{x:Rec}:x∈qP l↔x∈l∧x.typ≠6:=by unfold qP;simp
theorem vX {l m:List Rec}{x:Rec}:x∈kL l m↔x∈l∧x∉m:=by unfold kL;simp
theorem go_piece {first:Rec}{a b:Zn}(ha:Ok a)(hb:Ok b)(hf:ze a≠first){l:List Rec}(hl:l.Nodup)(hm:∀x,x∈l↔x∈qP a.l):
 ∃l',goO first (ze a,false,l) (ZK a b)=some (ze b,false,l')∧l'.Nodup∧∀x,x∈l'↔x∈qP b.l:=by
 have na:(qP a.l).Nodup:=(zn.vF ha).sublist List.filter_sublist;have nb:(qP b.l).Nodup:=(zn.vF hb).sublist List.filter_sublist;obtain⟨l1,e1,n1,m1⟩:=go_dels first (ze a) (kL (qP a.l) (qP b.l)) l (na.sublist List.filter_sublist) (fun x hx=>⟨(uz.1 (vX.1 hx).1).2,(hm x).2 (vX.1 hx).1⟩) hl
 have e2:=go_adds first (ze b) (kL (qP b.l) (qP a.l)) l1 (nb.sublist List.filter_sublist) fun x hx=>⟨(uz.1 (vX.1 hx).1).2,fun h=>(vX.1 hx).2 ((hm x).1 ((m1 x).1 h).1)⟩
 refine⟨l1 ++ kL (qP b.l) (qP a.l),?_,?_,fun x=>?_⟩
 ·unfold ZK;have s1:goO first (ze a,false,l) [ze a]=some (ze a,true,l):=by
   rw[goO,show Zu first (ze a,false,l) (ze a)=some (ze a,true,l) by unfold Zu;rw[if_pos (yM ha).2.2.1];simp[hf]];rfl
  have s2:goO first (ze a,true,l1) [ze b]=some (ze b,false,l1):=by
   rw[goO,show Zu first (ze a,true,l1) (ze b)=some (ze b,false,l1) by unfold Zu;rw[if_pos (yM hb).2.2.1];simp];rfl
  rw[go_app,go_app,go_app,s1,Option.bind_some,e1,Option.bind_some,s2,Option.bind_some,e2]
 ·refine List.nodup_append.2 ⟨n1,nb.sublist List.filter_sublist,fun x hx y hy e=>?_⟩;subst e;exact(vX.1 hy).2 ((hm x).1 ((m1 x).1 hx).1)
 ·rw[List.mem_append,m1 x,hm x,vX,vX];constructor
  ·rintro(⟨h1,h2⟩|⟨h1,_⟩)
   ·exact Classical.byContradiction fun h=>h2 ⟨h1,h⟩
   ·exact h1
  ·intro h;by_cases h2:x∈qP a.l
   ·exact .inl ⟨h2,fun h3=>h3.2 h⟩
   ·exact .inr ⟨h,h2⟩
theorem go_steps {H:List Zn}(hOk:∀i,i<H.length→Ok (q8 H i)){first:Rec}(f:Nat):∀n,f+n<H.length→(∀i,i<n→ze (q8 H (f+i))≠first)→
 ∃l',goO first (ze (q8 H f),false,qP (q8 H f).l) (zI H f n)=some (ze (q8 H (f+n)),false,l')∧l'.Nodup∧∀x,x∈l'↔x∈qP (q8 H (f+n)).l
 | 0,h,_=>⟨_,rfl,(zn.vF (hOk f (by omega))).sublist List.filter_sublist,fun _=>Iff.rfl⟩
 | n+1,h,hs=>by
   obtain⟨l1,e1,n1,m1⟩:=go_steps hOk f n (by omega) fun i hi=>hs i (by omega);obtain⟨l2,e2,n2,m2⟩:=go_piece (hOk (f+n) (by omega)) (hOk (f+n+1) (by omega)) (hs n (by omega)) n1 m1;exact⟨l2,by rw[Zt,go_app,e1,Option.bind_some];exact e2,n2,m2⟩
theorem perm_back {z:Zn}(hv:Ok z){l:List Rec}(hn:l.Nodup)(hm:∀x,x∈l↔x∈qP z.l):(l ++ [ze z]).Perm z.l:=by
 have hs:=yM hv;refine(List.perm_ext_iff_of_nodup ?_ (zn.vF hv)).2 fun x=>?_
 ·refine List.nodup_append.2 ⟨hn,by simp,fun x hx y hy e=>?_⟩;rw[List.mem_singleton.1 hy]at e;subst e;exact(uz.1 ((hm _).1 hx)).2 hs.2.2.1
 ·rw[List.mem_append,hm,uz,List.mem_singleton];constructor
  ·rintro(h | h)
   ·exact h.1
   ·rw[h];exact hs.2.1
  ·intro h;by_cases h6:x.typ=6
   ·right;have h1:x∈zn.qI z.l (qx z.ap,6):=zn.ko.2 ⟨h,(Ux hv h).1 h6⟩;rw[hs.1]at h1;exact List.mem_singleton.1 h1
   ·exact .inl ⟨h,h6⟩
theorem perm_front {z:Zn}(hv:Ok z):(ze z :: qP z.l).Perm z.l:=
 (List.perm_append_singleton (ze z) (qP z.l)).symm.trans (perm_back hv ((zn.vF hv).sublist List.filter_sublist) fun _=>Iff.rfl)
end tr
end Go.Proofs.YtpcmilhjpmlbpaaGreatDoor
