import Derived.Test.YtpcmilhjpmlbpaaGreatDoorQRSp
import Derived.Deep.RegionLaw
set_option maxRecDepth 100000
set_option maxHeartbeats 16000000
namespace Go.Proofs.YtpcmilhjpmlbpaaGreatDoor
open Go.RowKit Go.Shelf nm od
def TkB (w:World)(b:Nat)(zv:Value)(n:ByteArray)(s:Bool)(v:Value):Prop:=w.heap[b]? =some (.cells #[zv,.string n,.bool s,v] 153 (0,0))
theorem TkB.cells {w:World}{b:Nat}{zv:Value}{n:ByteArray}{s:Bool}{v:Value}(h:TkB w b zv n s v):w.cell? ⟨b,0,none⟩=some zv/\w.cell? ⟨b,1,none⟩=some (.string n)/\w.cell? ⟨b,2,none⟩=some (.bool s)/\w.cell? ⟨b,3,none⟩=some v:=by
 refine⟨?_,?_,?_,?_⟩ <;> (rw[qg h];rfl)
theorem TkB.below {w w':World}{b:Nat}{zv:Value}{n:ByteArray}{s:Bool}{v:Value}(h:TkB w b zv n s v)(hB:Below w.heap.size w w'):TkB w' b zv n s v:=(hB.block b (zm h)).trans h
def yP (Z:Option tr.Zn)(q:Msg)(zv:Value)(xs:List Msg)(w:World)(e:Ending)(w':World):Prop:=Below w.heap.size w w'/\
 ((∃c,c≠0/\tr.jf Z q xs= .err c/\e= .returned (.tuple #[.pointer none,kI c]))\/
  (∃t n s Zo x tl v,e= .returned (.tuple #[.pointer (some ⟨t,0,none⟩),.nilIface])/\tr.jf Z q xs=tr.QO Zo n (x :: tl)/\tl.length<=10000000/\(∀r∈x :: tl,(Lit.int .i64 r.typ).wf=true)/\¬(x.typ≠6\/x.data.size=0\/qG x.owner n=false)/\(20<=x.data.size/\x.data.size<=65535)/\
    StepZ w' s zv Zo/\Ui w' t zv n s (x :: tl) v))
theorem right_typ {r:Rec}(h:wi.qP r=true):(Lit.int .i64 r.typ).wf=true:=by
 unfold wi.qP wi.inB at h;simp only[gX,H7]at h;obtain⟨⟨⟨⟨-,h1⟩,-⟩,-⟩,-⟩:=h;simp only[Lit.wf,gX,H7];have e1:IntKind.i64.min= -9223372036854775808:=rfl;have e2:IntKind.i64.max=9223372036854775807:=rfl;rw[e1,e2];omega
theorem right_soa {r:Rec}(h:wi.qP r=true)(h6:r.typ=6)(h0:r.data.size≠0):20<=r.data.size/\r.data.size<=65535:=by
 unfold wi.qP at h;rw[if_neg (by omega)]at h;simp only[gX,Bool.or_eq_true,H7]at h;rcases h.2 with h1 | h1
 ·unfold wi.jR at h1;simp only[gX,H7]at h1;exact absurd h1.1 h0
 ·rw[h6]at h1;exact dt.Q8 h1
theorem StepZ.below {w w':World}{s:Bool}{zv:Value}{Zo:Option tr.Zn}(h:StepZ w s zv Zo)(hB:Below w.heap.size w w'):StepZ w' s zv Zo:=by
 rcases h with h | ⟨h1,A,z,h2,h3,h4,h5⟩
 ·exact .inl h
 ·exact .inr ⟨h1,A,z,h2,h3,h4,(h5.kept hB).top⟩
structure Gat (w:World)(bt:Nat)(zv:Value)(n:ByteArray)(s:Bool)(wr:World)(lv:Value)(L:List Rec):Prop where
 below:Below w.heap.size w wr
 tk:TkB wr bt zv n s lv
 own:wr.ownsRow w.heap.size 80 5 lv L.length (qw L)
 far:∀b,lv.ownBlock=some b->b≠bt
 low:w.heap.size<=bt
theorem Gat.moved {w wr w':World}{bt:Nat}{zv lv:Value}{n:ByteArray}{s:Bool}{L:List Rec}(h:Gat w bt zv n s wr lv L)(hB:Below wr.heap.size wr w'):Gat w bt zv n s w' lv L:=
 ⟨h.below.trans (hB.mono h.below.size),h.tk.below hB,ownsRow_below h.own hB,h.far,h.low⟩
theorem Gat.more {w wr w':World}{bt:Nat}{zv lv:Value}{n:ByteArray}{s:Bool}{L K:List Rec}(h:Gat w bt zv n s wr lv L){v':Value}(hg:wr.grownBy w' lv.ownBlock)(hn:∀b,v'.ownBlock=some b->lv.ownBlock=some b\/wr.heap.size<=b)(ho:w'.ownsRow w.heap.size 80 5 v' (L.length+K.length) (qw L ++ qw K)):
 TkB w' bt zv n s lv/\Gat w bt zv n s (w'.setCell ⟨bt,3,none⟩ v') v' (L ++ K):=by
 have hlt:=zm h.tk;have ht:TkB w' bt zv n s lv:=(hg.block bt hlt (λe=>h.far bt e.symm rfl)).trans h.tk;have hB:=h.below.grown hg h.below.size (λj hj=>(h.own.lt j hj).1)
 have hf:∀b,v'.ownBlock=some b->b≠bt:=λb hb e=>by
  rcases hn b hb with h1 | h1
  ·exact h.far b h1 e
  ·omega
 exact⟨ht,hB.setCell (p:=⟨bt,3,none⟩) h.low _,qC ht 3 _,qm (jX rfl rfl ho) (λb hb=>gP _ _ _ _ (hf b hb)),hf,h.low⟩
theorem tgather_any (Z:Option tr.Zn)(zv:Value)(hi:Int)(rs:Bool)(op:Int)(b3 b4 b5 b6 b7 b8:Bool)(rc:Int)(qs:List Qn)(an au ad:List Rec)
 (hq:qs.length<=1000000000000) (ha:an.length<=1000000000000) (hu:au.length<=1000000000000) (hd:ad.length<=1000000000000)
 (q a u d:Value) (xs:List Msg) (hxl:xs.length<=1000000000) (hrl:(tr.rowsOf xs).length<=10000000) (xv:Value) (w:World) (hz:VV w zv Z) (rq:yw w q qs) (ra:ql w a an) (ru:ql w u au) (rd:ql w d ad) (hx:uf w xv xs):
 Calls Tryz.prog 51 #[zv,yu ⟨hi,rs,op,b3,b4,b5,b6,b7,b8,rc⟩ q a u d,xv] w λe w'=>yP Z ⟨⟨hi,rs,op,b3,b4,b5,b6,b7,b8,rc⟩,qs,an,au,ad⟩ zv xs w e w':=by
 obtain⟨zp,rfl⟩:∃p,zv= .pointer p:=by
  rcases hz with⟨-,h⟩|⟨A,z,-,h,-⟩
  ·exact⟨_,h⟩
  ·exact⟨_,h⟩
 obtain⟨w1,hw1⟩:=yM (w.alloc (.cells (yT ⟨hi,rs,op,b3,b4,b5,b6,b7,b8,rc⟩ q a u d).toArray 33));obtain⟨hB1,hs1,hm1⟩:=zG hw1;obtain⟨bm,hbm⟩:=yM w.heap.size;rw[<- hbm]at hm1;obtain⟨M0,hM0⟩:=yM ((⟨⟨hi,rs,op,b3,b4,b5,b6,b7,b8,rc⟩,qs,an,au,ad⟩:Msg));obtain⟨ab,hab⟩:=yM (tr.zA Z M0);have HASK:=qe (show Calls Tryz.prog 88 #[.pointer zp,yu ⟨hi,rs,op,b3,b4,b5,b6,b7,b8,rc⟩ q a u d] w1 λe w'=>e= .returned (.bool ab)/\Below w1.heap.size w1 w' from by
  rw[hab,hM0];exact asked_any Z (.pointer zp) hi rs op b3 b4 b5 b6 b7 b8 rc qs an au ad hq ha hu hd q a u d w1 (hz.below hB1) (rq.below hB1) (ra.below hB1) (ru.below hB1) (rd.below hB1))
 have HMI:=qe (show M0.h.id=hi by rw[hM0]);have HMQ:=qe (show M0.qs=qs by rw[hM0]);rw[<- hM0];have HZ:=qe hz;have HQ:=qe rq;have HX:=qe hx;obtain⟨qa,qc,rfl,-⟩:=id rq;obtain⟨aa,ac,rfl,-⟩:=id ra;obtain⟨ua,uc,rfl,-⟩:=id ru;obtain⟨da,dc,rfl,-⟩:=id rd;obtain⟨xa,xc,rfl,-⟩:=id hx;have HM:=qe hm1;have HW1:=qe hw1;have HBM:=qe hbm;have HB1:=qe hB1;have HLQ:=qe hq;have HXL:=qe hxl;have HRL:=qe hrl;have HAB:=qe hab;clear hw1 hB1 hs1 hm1 hbm hz rq ra ru rd hq ha hu hd hM0 hab hxl hrl hx;have HRF:=qe (gJ w1.heap.size w1);obtain⟨m0,m1,m2,m3,m4,m5,m6,m7,m8,m9,m10,m11,m12,m13⟩:=(HM.out.below HRF.out).facts
 go_enter Tryz.func51,Tryz.ntmps51
 go_upto_region 1 with fail;rw[<- HW1.out,<- HBM.out];go_wp2_with fail;refine HASK.out.mono ?_;rintro e w2 ⟨rfl,hB2⟩;have QW:=qe (gm HB1.out hB2);have HB2:=qe hB2;clear hB2;clear m0 m1 m2 m3 m4 m5 m6 m7 m8 m9 m10 m11 m12 m13
 cases ab
 ·have HE:=qe (show yP Z M0 (.pointer zp) xs w (.returned (.tuple #[.pointer none,kI 8])) w2 from⟨QW.out,.inl ⟨8,by decide,tr.xO HAB.out.symm,rfl⟩⟩);go_wp2_with fail;go_ret2;exact HE.out
 ·obtain⟨n0,hqs,hnq,hcl,-,hty⟩:=tr.asked_one HAB.out.symm;rw[HMQ.out]at hqs;subst hqs;by_cases hx0:xs.length=0
  ·obtain rfl:xs= []:=Hm hx0;have HE:=qe (show yP Z M0 (.pointer zp) [] w (.returned (.tuple #[.pointer none,kI 10])) w2 from⟨QW.out,.inl ⟨10,by decide,tr.take_nil HAB.out.symm,rfl⟩⟩);clear hx0 hty hcl;go_wp2_with fail;go_ret2;exact HE.out
  ·have e1:((xs.length:Int) == 0)=false:=by rw[gG];omega
   have HX0:=qe hx0;obtain⟨s,hs⟩:=yM ((n0.typ == 251));obtain⟨Zo,hZo⟩:=yM ((if n0.typ=251 then Z else none));have hsz:StepZ w s (.pointer zp) Zo:=by
    rcases hty with⟨h1,-⟩|⟨h1,A,rfl,-⟩
    ·left;exact⟨by rw[hs,h1];rfl,by rw[hZo,h1];rfl⟩
    ·right;rcases HZ.out with⟨h2,-⟩|⟨A',z,h2,h3,h4,h5⟩
     ·cases h2
     ·cases h2
      exact⟨by rw[hs,h1];rfl,A,z,by rw[hZo,h1];rfl,h3,h4,h5⟩
   have e2:(n0.typ == 251)=s:=hs.symm;have HSZ:=qe hsz;have HZO:=qe hZo;have HNQ:=qe hnq;obtain⟨qb,Qm,rfl,c0,c1,c2⟩:∃qb Qm,qa=some ⟨qb,Qm,none⟩/\w2.cell? ⟨qb,Qm,none⟩=some (.string n0.name)/\w2.cell? ⟨qb,Qm+1,none⟩=some (.int .i64 n0.typ)/\w2.cell? ⟨qb,Qm+2,none⟩=some (.int .i64 n0.cls):=by
    obtain⟨_,_,hv,-,hr0⟩:=HQ.out.below QW.out;simp only[gL,true_and]at hv;obtain⟨rfl,rfl⟩:=hv;obtain⟨qb,Qm,rfl,hqb,c0,c1,c2⟩:=hr0 0 (by simp);simp only[Nat.zero_mul,Nat.add_zero,Ho]at c0 c1 c2;exact⟨qb,Qm,rfl,c0,c1,c2⟩
   have m10:=(HM.out.below HB2.out).facts.2.2.2.2.2.2.2.2.2.2.1;have e3:(0:Int)<(([n0]:List Qn).length:Int):=by simp
   have e4:0<([n0]:List Qn).length:=by simp
   clear hx0 hty hcl hsz hZo hnq hs;go_upto_region 5 with fail
   go_cut [8] (λtv wx=>∃bt,tv= .pointer (some ⟨bt,0,none⟩)/\TkB wx bt (.pointer zp) n0.name s (.slice none 0 0)/\Below w2.heap.size w2 wx/\w2.heap.size<=bt)
   case first=>
    go_region
    all_goals (go_wp2_with fail;go_meet;exact⟨w2.heap.size,rfl,qz rfl,((gJ _ _).alloc (gI _) _).drew,gI _⟩)
   obtain⟨bt,rfl,hT3,hB3,hbt⟩:=hcut;obtain⟨w3,hw3⟩:=yM wc;subst hw3;have HT3:=qe hT3;have Ul:=qe hB3;have Z4:=qe (gm QW.out hB3);have HBT:=qe hbt;have QH:=qe (gm HB2.out hB3);clear hT3 hB3 hbt c0 c1 c2 m10 e3 e4;go_wp2_with fail
   go_loopw [40] (λkv wr=>∃k:Nat,k<=xs.length/\kv= .int .i64 (k:Int)/\Hid (∀j (hj:j<xs.length),j<k->tr.xH M0 xs[j]=false)/\Hid (Below w3.heap.size w3 wr)) (λkv _=>xs.length-(intOf kv).toNat)
   case atStart=>exact⟨0,gU _,rfl,qe (λj hj h=>absurd h (Nat.not_lt_zero _)),qe (gJ _ _)⟩
   case round=>
    obtain⟨k,hk,rfl,HN,HB3R⟩:=hrel;obtain⟨wr4,hw4⟩:=yM wr;subst hw4;have XN:=qe (gm Z4.out HB3R.out);have HB1R:=qe (gm QH.out HB3R.out);by_cases hlt:k<xs.length
    ·have hki:(k:Int)<(xs.length:Int):=by omega
     have ek:IntKind.i64.wrap ((k:Int)+1)=(k:Int)+1:=Hg _ (by have:=HXL.out;omega);obtain⟨xb,xoff,mq,ma,mu,md,rfl,⟨c0,c1,c2,c3,c4,c5,c6,c7,c8,c9,c10,c11,c12,c13⟩,hin,hle⟩:=xW (HX.out.below XN.out) hlt;obtain⟨M,hM⟩:=yM (xs[k]);rw[<- hM]at c0 c1 c2 c3 c4 c5 c6 c7 c8 c9 hin hle;obtain⟨w5,hw5⟩:=yM (wr4.alloc (.cells (yT M.h mq ma mu md).toArray 33));obtain⟨hB5,hs5,hm5⟩:=zG hw5;obtain⟨bx,hbx⟩:=yM wr4.heap.size;rw[<- hbx]at hm5;obtain⟨mb,hmb⟩:=yM (wi.jL M.h M.qs M.an M.au M.ad)
     have HCK:=qe (show ∀X,Below wr4.heap.size wr4 X->Calls Tryz.prog 34 #[yu M.h mq ma mu md] X λe w'=>e= .returned (.int .i64 (wi.okI mb))/\Below X.heap.size X w' from λX hX=>by
      have h:=hin.below hX;rw[hmb];exact XZ M.h M.qs M.an M.au M.ad hle.1 hle.2.1 hle.2.2.1 hle.2.2.2 mq ma mu md X h.rq h.ra h.ru h.rd)
     obtain⟨eb,heb⟩:=yM (decide (M.qs= [n0]))
     have HEQ:=qe (show ∀X,Below wr4.heap.size wr4 X->Calls Tryz.prog 89 #[mq,.slice (some ⟨qb,Qm,none⟩) ([n0]:List Qn).length qc] X λe w'=>e= .returned (.bool eb)/\Below X.heap.size X w' from λX hX=>by
      rw[heb];exact equalQ_any M.qs [n0] hle.1 _ _ X (hin.rq.below hX) (HQ.out.below (gm XN.out hX)))
     obtain⟨mqa,mqc,rfl,-⟩:=id hin.rq;obtain⟨maa,mac,rfl,-⟩:=id hin.ra;obtain⟨mua,muc,rfl,-⟩:=id hin.ru;obtain⟨mda,mdc,rfl,-⟩:=id hin.rd;have HMX:=qe hM;have HW5:=qe hw5;have HB5:=qe hB5;have HM5:=qe hm5;have HBX:=qe hbx;have HMB:=qe hmb;have HEB:=qe heb;have HLT:=qe hlt;clear hM hin hle hw5 hB5 hs5 hm5 hbx hmb heb;go_upto_region 9 with fail;rw[<- HW5.out,<- HBX.out];clear c0 c1 c2 c3 c4 c5 c6 c7 c8 c9 c10 c11 c12 c13;obtain⟨x0,x1,x2,x3,x4,x5,x6,x7,x8,x9,x10,x11,x12,x13⟩:=HM5.out.facts;have Jb:=qe (gm HB1R.out HB5.out);go_wp2_with fail;refine(HCK.out w5 HB5.out).mono ?_;rintro e w6 ⟨rfl,hB6⟩;have HB46:=qe (gm HB5.out hB6);have Vh:=qe (gm Jb.out hB6);have HM6:=qe (HM5.out.below hB6);have Jc:=qe (gm XN.out HB46.out);have XM:=qe (gm HB3R.out HB46.out);clear hB6 x0 x1 x2 x3 x4 x5 x6 x7 x8 x9 x10 x11 x12 x13;obtain⟨x0,x1,x2,x3,x4,x5,x6,x7,x8,x9,x10,x11,x12,x13⟩:=HM6.out.facts;obtain⟨m0,m1,m2,m3,m4,m5,m6,m7,m8,m9,m10,m11,m12,m13⟩:=(HM.out.below Vh.out).facts
     cases mb
     ·have d0:(wi.okI false != 0)=true:=rfl;have HE:=qe (show yP Z M0 (.pointer zp) xs w (.returned (.tuple #[.pointer none,kI 8])) w6 from⟨Jc.out,.inl ⟨8,by decide,tr.Q7 HAB.out.symm HLT.out (by rw[<- HMX.out];unfold tr.xH;(rw[<- HMB.out];rfl)),rfl⟩⟩);go_wp2_with fail;go_ret2;exact HE.out
     ·have d0:(wi.okI true != 0)=false:=rfl
      cases hrs:M.h.KW
      ·have HE:=qe (show yP Z M0 (.pointer zp) xs w (.returned (.tuple #[.pointer none,kI 8])) w6 from⟨Jc.out,.inl ⟨8,by decide,tr.Q7 HAB.out.symm HLT.out (by rw[<- HMX.out];unfold tr.xH;(rw[hrs];simp)),rfl⟩⟩);go_wp2_with fail;go_ret2;exact HE.out
      ·by_cases hid:M.h.id=hi
       ·have d1:(M.h.id != hi)=false:=by rw[Hy];exact hid
        have HID:=qe hid;clear hid;by_cases hop:M.h.op=0
        ·have d2:(M.h.op != 0)=false:=by rw[Hy];exact hop
         have HOP:=qe hop;clear hop;go_wp2_with fail;refine(HEQ.out w6 HB46.out).mono ?_;rintro e w7 ⟨rfl,hB7⟩;have HB07:=qe (gm Jc.out hB7);have HB37:=qe (gm XM.out hB7);have HM7:=qe (HM6.out.below hB7);clear hB7 x0 x1 x2 x3 x4 x5 x6 x7 x8 x9 x10 x11 x12 x13 m0 m1 m2 m3 m4 m5 m6 m7 m8 m9 m10 m11 m12 m13;obtain⟨x0,x1,x2,x3,x4,x5,x6,x7,x8,x9,x10,x11,x12,x13⟩:=HM7.out.facts
         cases eb
         ·have HE:=qe (show yP Z M0 (.pointer zp) xs w (.returned (.tuple #[.pointer none,kI 8])) w7 from⟨HB07.out,.inl ⟨8,by decide,tr.Q7 HAB.out.symm HLT.out (by rw[<- HMX.out];unfold tr.xH;(rw[HMQ.out,<- HEB.out];simp)),rfl⟩⟩);go_wp2_with fail;go_ret2;exact HE.out
         ·by_cases hau:M.au.length=0
          ·have d3:¬((0:Int)<(M.au.length:Int)):=by omega
           have HN2:=qe (show ∀j (hj:j<xs.length),j<k+1->tr.xH M0 xs[j]=false from λj hj h=>by
            by_cases e:j<k
            ·exact HN.out j hj e
            ·obtain rfl:j=k:=by omega
             rw[<- HMX.out];unfold tr.xH;rw[<- HMB.out,hrs,HID.out,HMI.out,HOP.out,HMQ.out,<- HEB.out,hau];simp)
           have HAU:=qe hau;clear hau;go_wp2_with fail
           go_roundw
           case rel=>exact⟨k+1,by have:=HLT.out;omega,by go_num,HN2,HB37⟩
           case measure=>simp[intOf];omega
          ·have d3:(0:Int)<(M.au.length:Int):=by omega
           have HE:=qe (show yP Z M0 (.pointer zp) xs w (.returned (.tuple #[.pointer none,kI 8])) w7 from⟨HB07.out,.inl ⟨8,by decide,tr.Q7 HAB.out.symm HLT.out (by rw[<- HMX.out];unfold tr.xH;(simp[hau])),rfl⟩⟩);go_wp2_with fail;go_ret2;exact HE.out
        ·have d2:(M.h.op != 0)=true:=by rw[bne_iff_ne];exact hop
         have HE:=qe (show yP Z M0 (.pointer zp) xs w (.returned (.tuple #[.pointer none,kI 8])) w6 from⟨Jc.out,.inl ⟨8,by decide,tr.Q7 HAB.out.symm HLT.out (by rw[<- HMX.out];unfold tr.xH;(simp[hop])),rfl⟩⟩);go_wp2_with fail;go_ret2;exact HE.out
       ·have d1:(M.h.id != hi)=true:=by rw[bne_iff_ne];exact hid
        have HE:=qe (show yP Z M0 (.pointer zp) xs w (.returned (.tuple #[.pointer none,kI 8])) w6 from⟨Jc.out,.inl ⟨8,by decide,tr.Q7 HAB.out.symm HLT.out (by rw[<- HMX.out];unfold tr.xH;(rw[HMI.out];simp[hid])),rfl⟩⟩);go_wp2_with fail;go_ret2;exact HE.out
    ·have HNA:=qe (show ∀j (hj:j<xs.length),tr.xH M0 xs[j]=false from λj hj=>HN.out j hj (by omega));obtain rfl:k=xs.length:=by omega
     clear hlt hk;have HG0:=qe (show Gat w bt (.pointer zp) n0.name s wr4 (.slice none 0 0) (tr.rowsOf (xs.take 0)) from⟨XN.out,HT3.out.below HB3R.out,gZ _ _ _ _,λb hb=>(by cases hb),by have:=QW.out.size;have:=HBT.out;omega⟩);go_wp2_with fail
     go_loopw [83] (λkv wr=>∃(k:Nat) (lv:Value),k<=xs.length/\kv= .int .i64 (k:Int)/\Hid (∀j (hj:j<xs.length),j<k->xs[j].h.yL=0)/\Hid (Gat w bt (.pointer zp) n0.name s wr lv (tr.rowsOf (xs.take k)))) (λkv _=>xs.length-(intOf kv).toNat)
     case atStart=>exact⟨0,_,gU _,rfl,qe (λj hj h=>absurd h (Nat.not_lt_zero _)),HG0⟩
     case round=>
      obtain⟨k,lv,hk,rfl,HC,HG⟩:=hrel;obtain⟨wr5,hw5⟩:=yM wr;subst hw5;by_cases hlt:k<xs.length
      ·have hki:(k:Int)<(xs.length:Int):=by omega
       have ek:IntKind.i64.wrap ((k:Int)+1)=(k:Int)+1:=Hg _ (by have:=HXL.out;omega);obtain⟨xb,xoff,mq,ma,mu,md,rfl,⟨c0,c1,c2,c3,c4,c5,c6,c7,c8,c9,c10,c11,c12,c13⟩,hin,hle⟩:=xW (HX.out.below HG.out.below) hlt;obtain⟨M,hM⟩:=yM (xs[k]);rw[<- hM]at c0 c1 c2 c3 c4 c5 c6 c7 c8 c9 hin;obtain⟨w5,hw5⟩:=yM (wr5.alloc (.cells (yT M.h mq ma mu md).toArray 33));obtain⟨hB5,hs5,hm5⟩:=zG hw5;obtain⟨bx,hbx⟩:=yM wr5.heap.size;rw[<- hbx]at hm5;obtain⟨mqa,mqc,rfl,-⟩:=id hin.rq;obtain⟨maa,mac,rfl,-⟩:=id hin.ra;obtain⟨mua,muc,rfl,-⟩:=id hin.ru;obtain⟨mda,mdc,rfl,-⟩:=id hin.rd;have HMX:=qe hM;have HW5:=qe hw5;have HB5:=qe hB5;have HM5:=qe hm5;have HBX:=qe hbx;have HLT:=qe hlt;have HRA:=qe (hin.ra.below hB5);have HG5:=qe (HG.out.moved hB5);have hrn:=tr.rows_next (xs:=xs) hlt;rw[<- hM]at hrn;have HRN:=qe hrn;have HLN:=qe (show(tr.rowsOf (xs.take k)).length+M.an.length<=1000000000 by
        have h1:=tr.rows_le (xs:=xs) (k:=k+1);rw[hrn,gK]at h1;have:=HRL.out;omega)
       clear hM hin hle hw5 hB5 hs5 hm5 hbx hrn;go_upto_region 15 with fail;rw[<- HW5.out,<- HBX.out];clear c0 c1 c2 c3 c4 c5 c6 c7 c8 c9 c10 c11 c12 c13;obtain⟨x0,x1,x2,x3,x4,x5,x6,x7,x8,x9,x10,x11,x12,x13⟩:=HM5.out.facts;obtain⟨t0,t1,t2,t3⟩:=HG5.out.tk.cells;by_cases hrc:M.h.yL=0
       ·have d0:(M.h.yL != 0)=false:=by rw[Hy];exact hrc
        have HC2:=qe (show ∀j (hj:j<xs.length),j<k+1->xs[j].h.yL=0 from λj hj h=>by
         by_cases e:j<k
         ·exact HC.out j hj e
         ·obtain rfl:j=k:=by omega
          rw[<- HMX.out];exact hrc)
        clear hrc;go_upto_region 17 with fail
        go_region_law (refine yN rfl _ _ rfl w.heap.size _ _ _ rfl (show w5.drew.ownsRow w.heap.size _ 5 lv _ _ from HG5.out.own) _ _ (show ql w5.drew (.slice maa M.an.length mac) M.an from HRA.out) rfl HLN.out (show w.heap.size<=w5.drew.heap.size from HG5.out.below.size) ?_;intro vP wP hoP hgP hnP;obtain⟨htP,hGP⟩:=Gat.more (HG5.out.moved (gJ _ _).drew) hgP hnP hoP;obtain⟨pa,pc,rfl,-⟩:=qj hoP;obtain⟨-,-,-,p3⟩:=htP.cells;have fP:=qB htP 3)
        all_goals
         have HG9:=qe (show Gat w bt (.pointer zp) n0.name s (wP.setCell ⟨bt,3,none⟩ (.slice pa ((tr.rowsOf (xs.take k)).length+M.an.length) pc)) (.slice pa ((tr.rowsOf (xs.take k)).length+M.an.length) pc) (tr.rowsOf (xs.take (k+1))) from by rw[HRN.out];exact hGP);clear p3 fP htP hGP hoP hgP hnP;go_wp2_with fail
         go_roundw
         case rel=>exact⟨k+1,_,by have:=HLT.out;omega,by go_num,HC2,HG9⟩
         case measure=>simp[intOf];omega
       ·have d0:(M.h.yL != 0)=true:=by rw[bne_iff_ne];exact hrc
        have HE:=qe (show yP Z M0 (.pointer zp) xs w (.returned (.tuple #[.pointer none,kI 28])) w5 from⟨HG5.out.below,.inl ⟨28,by decide,tr.take_code HAB.out.symm HNA.out HLT.out (by rw[<- HMX.out];exact hrc),rfl⟩⟩);clear hrc;go_wp2_with fail;go_ret2;exact HE.out
      ·have HCA:=qe (show ∀j (hj:j<xs.length),xs[j].h.yL=0 from λj hj=>HC.out j hj (by omega));have hgg:=HG.out;rw[List.take_of_length_le (by omega)]at hgg;have HGG:=qe hgg;have HTR:=qe (tr.take_row HAB.out.symm HX0.out HNA.out HCA.out);obtain rfl:k=xs.length:=by omega
       clear hlt hk hgg HG
       have hal:∀r∈tr.rowsOf xs,wi.qP r=true:=λr hr=>by
        unfold tr.rowsOf at hr;obtain⟨m,hm,hr⟩:=List.mem_flatMap.1 hr;obtain⟨j,hj,rfl⟩:=List.getElem_of_mem hm;exact tr.bad_rows (HNA.out j hj) r hr
       have htr:=HTR.out;rw[HNQ.out,<- HZO.out]at htr;obtain⟨R,hR⟩:=yM (tr.rowsOf xs);have hgg:=HGG.out;have hrl:=HRL.out;rw[<- hR]at hal htr hgg hrl;have HAL:=qe hal;have HTK:=qe htr;have HGR:=qe hgg;have HRR:=qe hrl;obtain⟨la,lc,rfl,-⟩:=qj hgg.own;obtain⟨t0,t1,t2,t3⟩:=hgg.tk.cells;clear hR hal htr hgg hrl HGG HTR
       cases R with
       | nil=>
         have HE:=qe (show ∀X,Below wr5.heap.size wr5 X->yP Z M0 (.pointer zp) xs w (.returned (.tuple #[.pointer none,kI 15])) X from λX hX=>⟨HGR.out.below.trans (hX.mono HGR.out.below.size),.inl ⟨15,by decide,HTK.out.trans rfl,rfl⟩⟩);have t3':wr5.cell? ⟨bt,3,none⟩=some (.slice la 0 lc):=t3;clear t3;go_upto_region 19 with fail
         go_quiet (fail)
         obtain⟨w6,hw6⟩:=yM (wr5.drewN nq);rw[<- hw6];have HB6:=qe (show Below wr5.heap.size wr5 w6 from by rw[hw6];exact qL (gJ _ _) nq);clear hw6;clear t0 t1 t2 t3';go_wp2_with fail;go_ret2;exact HE.out w6 HB6.out
       | cons x tl=>
         have HE:=qe (show(x.typ≠6\/x.data.size=0\/qG x.owner n0.name=false)->∀X,Below wr5.heap.size wr5 X->yP Z M0 (.pointer zp) xs w (.returned (.tuple #[.pointer none,kI 15])) X from λhx X hX=>⟨HGR.out.below.trans (hX.mono HGR.out.below.size),.inl ⟨15,by decide,HTK.out.trans (tr.row_soa hx),rfl⟩⟩);obtain⟨rg,rc',hla,-,-⟩:=HGR.out.own.form (by simp);simp only[gL,true_and]at hla;obtain⟨rfl,rfl⟩:=hla;obtain⟨hrg,r0,r1,r2,r3,r4⟩:=qH (qF HGR.out.own) (j:=0) (by simp);simp only[Ho,Nat.zero_mul,Nat.add_zero,Nat.zero_add]at r0 r1 r2 r3 r4;obtain⟨m,hm⟩:=yM ((x :: tl).length);have hm2:m=tl.length+1:=by rw[hm];rfl
         rw[<- hm]at t3;have e5:((m:Int) == 0)=false:=by rw[gG];omega
         have e6:(0:Int)<(m:Int):=by omega
         have e8:¬(m=0):=by omega
         have e9:(m == 0)=false:=by rw[gG];omega
         have e7:0<m:=by omega
         have HM2:=qe hm;have HRG:=qe hrg;clear hm hm2 hrg;by_cases k6:x.typ=6
         ·have e10:(x.typ != 6)=false:=by rw[Hy];exact k6
          by_cases kd:x.data.size=0
          ·have e11:=yR kd;have HKD:=qe kd;clear kd k6;go_upto_region 19 with fail
           go_quiet (fail)
           obtain⟨w6,hw6⟩:=yM (wr5.drewN nq);rw[<- hw6];have HB6:=qe (show Below wr5.heap.size wr5 w6 from by rw[hw6];exact qL (gJ _ _) nq);clear hw6;clear t0 t1 t2 t3 r0 r1 r2 r3 r4;go_wp2_with fail;go_ret2;exact HE.out (.inr (.inl HKD.out)) w6 HB6.out
          ·have e11:=jq kd;obtain⟨eb,heb⟩:=yM (qG x.owner n0.name);have HKD:=qe kd;have HK6:=qe k6;have HEB:=qe heb;have HEN:=qe (show ∀X,Calls Tryz.prog 62 #[.string x.owner,.string n0.name] X λe w'=>e= .returned (.bool eb)/\Below X.heap.size X w' from λX=>by rw[heb];exact Q5 x.owner n0.name X);clear kd k6 heb;have zk:=qe (show ∀X,Below wr5.heap.size wr5 X->Below wr5.heap.size wr5 X/\X.cell? ⟨bt,1,none⟩=some (.string n0.name)/\X.cell? ⟨bt,3,none⟩=some (.slice (some ⟨rg,0,none⟩) m lc)/\X.cell? ⟨rg,0,none⟩=some (.string x.owner)/\X.cell? ⟨rg,1,none⟩=some (.int .i64 x.typ)/\X.cell? ⟨rg,4,none⟩=some (.string x.data) from λX hX=>
            ⟨hX,(hX.cell (p:=⟨bt,_,none⟩) (zm HGR.out.tk)).trans t1,(hX.cell (p:=⟨bt,_,none⟩) (zm HGR.out.tk)).trans t3,(hX.cell (p:=⟨rg,_,none⟩) HRG.out).trans r0,(hX.cell (p:=⟨rg,_,none⟩) HRG.out).trans r1,(hX.cell (p:=⟨rg,_,none⟩) HRG.out).trans r4⟩)
           go_upto_region 19 with fail
           go_cut [143] (λsv wx=>sv= .bool (!eb)/\Below wr5.heap.size wr5 wx)
           case first=>
            go_region_held3 (λX=>Below wr5.heap.size wr5 X/\X.cell? ⟨bt,1,none⟩=some (.string n0.name)/\X.cell? ⟨bt,3,none⟩=some (.slice (some ⟨rg,0,none⟩) m lc)/\X.cell? ⟨rg,0,none⟩=some (.string x.owner)/\X.cell? ⟨rg,1,none⟩=some (.int .i64 x.typ)/\X.cell? ⟨rg,4,none⟩=some (.string x.data))
             (first | assumption | exact zk.out _ (gJ _ _).drew | (go_split_ands;exact zk.out _ (by assumption)))
             (first | (go_at_call 62;(with_reducible refine(HEN.out _).mono ?_);rintro e wX ⟨rfl,hbX⟩;go_split_ands;have uX:=Below.trans (B:=wr5.heap.size) (a:=wr5) (by assumption) (hbX.mono (Below.size (by assumption)))))
            all_goals (go_wp2_with fail;go_meet;exact⟨rfl,uX⟩)
           obtain⟨rfl,hB6⟩:=hcut;obtain⟨w6,hw6⟩:=yM wc;subst hw6;have HB6:=qe hB6;clear hB6 t0 t1 t2 t3 r0 r1 r2 r3 r4
           cases eb
           ·go_wp2_with fail;go_ret2;exact HE.out (.inr (.inr HEB.out.symm)) w6 HB6.out
           ·have HF:=qe (show yP Z M0 (.pointer zp) xs w (.returned (.tuple #[.pointer (some ⟨bt,0,none⟩),.nilIface])) w6 from by
             have hg6:=HGR.out.moved HB6.out;obtain⟨u0,u1,u2,u3⟩:=hg6.tk.cells;refine⟨hg6.below,.inr ⟨bt,n0.name,s,Zo,x,tl,_,rfl,HTK.out,by have:=HRR.out;simp only[Ha]at this;omega,λr hr=>right_typ (HAL.out r hr),?_,right_soa (HAL.out x (by simp)) HK6.out HKD.out,HSZ.out.below hg6.below,qF hg6.own,zm hg6.tk,u0,u1,u2,u3⟩⟩;rintro(h | h | h)
             ·exact h HK6.out
             ·exact HKD.out h
             ·rw[<- HEB.out]at h;cases h)
            go_wp2_with fail;go_ret2;exact HF.out
         ·have e10:(x.typ != 6)=true:=by rw[bne_iff_ne];exact k6
          have HK6:=qe k6;clear k6;go_upto_region 19 with fail
          go_quiet (fail)
          obtain⟨w6,hw6⟩:=yM (wr5.drewN nq);rw[<- hw6];have HB6:=qe (show Below wr5.heap.size wr5 w6 from by rw[hw6];exact qL (gJ _ _) nq);clear hw6;clear t0 t1 t2 t3 r0 r1 r2 r3 r4;go_wp2_with fail;go_ret2;exact HE.out (.inl HK6.out) w6 HB6.out
end Go.Proofs.YtpcmilhjpmlbpaaGreatDoor
