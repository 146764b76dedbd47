import Derived.Test.YtpcmilhjpmlbpaaGreatDoorQCpU
import Derived.Deep.RegionLaw
import Derived.LaidEql
import Derived.WalkKit
import Derived.RowKitTokens
import Derived.Stop.Asserts
set_option maxRecDepth 100000
set_option maxHeartbeats 16000000
namespace Go.Proofs.YtpcmilhjpmlbpaaGreatDoor
open Go.RowKit Go.Shelf nm od
def TkB (w:World)(b:Nat)(zv:Value)(n:ByteArray)(s:Bool)(v:Value):Prop:=w.heap[b]? =some (.cells #[zv,.string n,.bool s,v] 153 (0,0))
theorem TkB.cells {w:World}{b:Nat}{zv:Value}{n:ByteArray}{s:Bool}{v:Value}(h:TkB w b zv n s v):w.cell? ⟨b,0,none⟩=some zv∧w.cell? ⟨b,1,none⟩=some (.string n)∧w.cell? ⟨b,2,none⟩=some (.bool s)∧w.cell? ⟨b,3,none⟩=some v:=by
 refine⟨?_,?_,?_,?_⟩ <;> (rw[qh h];rfl)
theorem TkB.below {w w':World}{b:Nat}{zv:Value}{n:ByteArray}{s:Bool}{v:Value}(h:TkB w b zv n s v)(hB:Below w.heap.size w w'):TkB w' b zv n s v:=(hB.block b (yo h)).trans h
def yP (Z:Option tr.Zn)(q:Msg)(zv:Value)(xs:List Msg)(w:World)(e:Ending)(w':World):Prop:=Below w.heap.size w w'∧
 ((∃c,c≠0∧tr.uf Z q xs= .err c∧e= .returned (.tuple #[.pointer none,kD c]))∨
  (∃t n s Zo x tl v,e= .returned (.tuple #[.pointer (some ⟨t,0,none⟩),.nilIface])∧tr.uf Z q xs=tr.Q0 Zo n (x :: tl)∧tl.length≤10000000∧(∀r∈x :: tl,(Lit.int .i64 r.typ).wf=true)∧¬(x.typ≠6∨x.data.size=0∨qF x.owner n=false)∧(20≤x.data.size∧x.data.size≤65535)∧
    StepZ w' s zv Zo∧KT w' t zv n s (x :: tl) v))
theorem right_typ {r:Rec}(h:wi.qR r=true):(Lit.int .i64 r.typ).wf=true:=by
 unfold wi.qR wi.inB at h;simp only[Bool.and_eq_true,decide_eq_true_eq]at h;obtain⟨⟨⟨⟨-,h1⟩,-⟩,-⟩,-⟩:=h;simp only[Lit.wf,Bool.and_eq_true,decide_eq_true_eq];have e1:IntKind.i64.min= -9223372036854775808:=rfl;have e2:IntKind.i64.max=9223372036854775807:=rfl;rw[e1,e2];omega
theorem right_soa {r:Rec}(h:wi.qR r=true)(h6:r.typ=6)(h0:r.data.size≠0):20≤r.data.size∧r.data.size≤65535:=by
 unfold wi.qR at h;rw[if_neg (by omega)]at h;simp only[Bool.and_eq_true,Bool.or_eq_true,decide_eq_true_eq]at h;rcases h.2 with h1 | h1
 ·unfold wi.jT at h1;simp only[Bool.and_eq_true,decide_eq_true_eq]at h1;exact absurd h1.1 h0
 ·rw[h6]at h1;exact dt.QX h1
theorem StepZ.below {w w':World}{s:Bool}{zv:Value}{Zo:Option tr.Zn}(h:StepZ w s zv Zo)(hB:Below w.heap.size w w'):StepZ w' s zv Zo:=by
 rcases h with h | ⟨h1,A,z,h2,h3,h4,h5⟩
 ·exact .inl h
 ·exact .inr ⟨h1,A,z,h2,h3,h4,(h5.kept hB).top⟩
structure Gat (w:World)(bt:Nat)(zv:Value)(n:ByteArray)(s:Bool)(wr:World)(lv:Value)(L:List Rec):Prop where
 below:Below w.heap.size w wr
 tk:TkB wr bt zv n s lv
 own:wr.ownsRow w.heap.size 80 5 lv L.length (qp L)
 far:∀b,lv.ownBlock=some b→b≠bt
 low:w.heap.size≤bt
theorem Gat.moved {w wr w':World}{bt:Nat}{zv lv:Value}{n:ByteArray}{s:Bool}{L:List Rec}(h:Gat w bt zv n s wr lv L)(hB:Below wr.heap.size wr w'):Gat w bt zv n s w' lv L:=
 ⟨h.below.trans (hB.mono h.below.size),h.tk.below hB,ownsRow_below h.own hB,h.far,h.low⟩
theorem Gat.more {w wr w':World}{bt:Nat}{zv lv:Value}{n:ByteArray}{s:Bool}{L K:List Rec}(h:Gat w bt zv n s wr lv L){v':Value}(hg:wr.grownBy w' lv.ownBlock)(hn:∀b,v'.ownBlock=some b→lv.ownBlock=some b∨wr.heap.size≤b)(ho:w'.ownsRow w.heap.size 80 5 v' (L.length+K.length) (qp L ++ qp K)):
 TkB w' bt zv n s lv∧Gat w bt zv n s (w'.setCell ⟨bt,3,none⟩ v') v' (L ++ K):=by
 have hlt:=yo h.tk;have ht:TkB w' bt zv n s lv:=(hg.block bt hlt (fun e=>h.far bt e.symm rfl)).trans h.tk;have hB:=h.below.grown hg h.below.size (fun j hj=>(h.own.lt j hj).1);have hf:∀b,v'.ownBlock=some b→b≠bt:=fun b hb e=>by
  rcases hn b hb with h1 | h1
  ·exact h.far b h1 e
  ·omega
 exact⟨ht,hB.setCell (p:=⟨bt,3,none⟩) h.low _,qC ht 3 _,qj (jl rfl rfl ho) (fun b hb=>Below.heap_setCell _ _ _ _ (hf b hb)),hf,h.low⟩
theorem tgather_any (Z:Option tr.Zn)(zv:Value)(hi:Int)(rs:Bool)(op:Int)(b3 b4 b5 b6 b7 b8:Bool)(rc:Int)(qs:List Qn)(an au ad:List Rec)
 (hq:qs.length≤1000000000000) (ha:an.length≤1000000000000) (hu:au.length≤1000000000000) (hd:ad.length≤1000000000000)
 (q a u d:Value) (xs:List Msg) (hxl:xs.length≤1000000000) (hrl:(tr.rowsOf xs).length≤10000000) (xv:Value) (w:World) (hz:ZHas w zv Z) (rq:yu w q qs) (ra:qm w a an) (ru:qm w u au) (rd:qm w d ad) (hx:jB w xv xs):
 Calls Tryz.prog 51 #[zv,yZ ⟨hi,rs,op,b3,b4,b5,b6,b7,b8,rc⟩ q a u d,xv] w fun e w'=>yP Z ⟨⟨hi,rs,op,b3,b4,b5,b6,b7,b8,rc⟩,qs,an,au,ad⟩ zv xs w e w':=by
 obtain⟨zp,rfl⟩:∃p,zv= .pointer p:=by
  rcases hz with⟨-,h⟩|⟨A,z,-,h,-⟩
  ·exact⟨_,h⟩
  ·exact⟨_,h⟩
 obtain⟨w1,hw1⟩:∃X,X=w.alloc (.cells (yG ⟨hi,rs,op,b3,b4,b5,b6,b7,b8,rc⟩ q a u d).toArray 33):=⟨_,rfl⟩;obtain⟨hB1,hs1,hm1⟩:=zC hw1;obtain⟨bm,hbm⟩:∃b,b=w.heap.size:=⟨_,rfl⟩;rw[← hbm]at hm1;obtain⟨M0,hM0⟩:∃M,M=(⟨⟨hi,rs,op,b3,b4,b5,b6,b7,b8,rc⟩,qs,an,au,ad⟩:Msg):=⟨_,rfl⟩;obtain⟨ab,hab⟩:∃b,b=tr.zP Z M0:=⟨_,rfl⟩;have HASK:=qe (show Calls Tryz.prog 88 #[.pointer zp,yZ ⟨hi,rs,op,b3,b4,b5,b6,b7,b8,rc⟩ q a u d] w1 fun e w'=>e= .returned (.bool ab)∧Below w1.heap.size w1 w' from by
  rw[hab,hM0];exact asked_any Z (.pointer zp) hi rs op b3 b4 b5 b6 b7 b8 rc qs an au ad hq ha hu hd q a u d w1 (hz.below hB1) (rq.below hB1) (ra.below hB1) (ru.below hB1) (rd.below hB1))
 have HMI:=qe (show M0.h.id=hi by rw[hM0]);have HMQ:=qe (show M0.qs=qs by rw[hM0]);rw[← hM0];have HZ:=qe hz;have HQ:=qe rq;have HX:=qe hx;obtain⟨qa,qc,rfl,-⟩:=id rq;obtain⟨aa,ac,rfl,-⟩:=id ra;obtain⟨ua,uc,rfl,-⟩:=id ru;obtain⟨da,dc,rfl,-⟩:=id rd;obtain⟨xa,xc,rfl,-⟩:=id hx;have HM:=qe hm1;have HW1:=qe hw1;have HBM:=qe hbm;have HB1:=qe hB1;have HLQ:=qe hq;have HXL:=qe hxl;have HRL:=qe hrl;have HAB:=qe hab;clear hw1 hB1 hs1 hm1 hbm hz rq ra ru rd hq ha hu hd hM0 hab hxl hrl hx;have HRF:=qe (Below.refl w1.heap.size w1);obtain⟨m0,m1,m2,m3,m4,m5,m6,m7,m8,m9,m10,m11,m12,m13⟩:=(HM.out.below HRF.out).facts
 go_enter Tryz.func51,Tryz.ntmps51
 go_upto_region 1 with fail;rw[← HW1.out,← HBM.out];go_wp2_with fail;refine HASK.out.mono ?_;rintro e w2 ⟨rfl,hB2⟩;have YL:=qe (HB1.out.trans (hB2.mono HB1.out.size));have HB2:=qe hB2;clear hB2;clear m0 m1 m2 m3 m4 m5 m6 m7 m8 m9 m10 m11 m12 m13
 cases ab
 ·have HE:=qe (show yP Z M0 (.pointer zp) xs w (.returned (.tuple #[.pointer none,kD 8])) w2 from⟨YL.out,.inl ⟨8,by decide,tr.take_asked HAB.out.symm,rfl⟩⟩);go_wp2_with fail;go_ret2;exact HE.out
 ·obtain⟨n0,hqs,hnq,hcl,-,hty⟩:=tr.asked_one HAB.out.symm;rw[HMQ.out]at hqs;subst hqs;by_cases hx0:xs.length=0
  ·obtain rfl:xs= []:=List.eq_nil_of_length_eq_zero hx0;have HE:=qe (show yP Z M0 (.pointer zp) [] w (.returned (.tuple #[.pointer none,kD 10])) w2 from⟨YL.out,.inl ⟨10,by decide,tr.take_nil HAB.out.symm,rfl⟩⟩);clear hx0 hty hcl;go_wp2_with fail;go_ret2;exact HE.out
  ·have e1:((xs.length:Int) == 0)=false:=by rw[beq_eq_false_iff_ne];omega
   have HX0:=qe hx0;obtain⟨s,hs⟩:∃s,s=(n0.typ == 251):=⟨_,rfl⟩;obtain⟨Zo,hZo⟩:∃Y,Y=(if n0.typ=251 then Z else none):=⟨_,rfl⟩;have hsz:StepZ w s (.pointer zp) Zo:=by
    rcases hty with⟨h1,-⟩|⟨h1,A,rfl,-⟩
    ·left;exact⟨by rw[hs,h1];rfl,by rw[hZo,h1];rfl⟩
    ·right;rcases HZ.out with⟨h2,-⟩|⟨A',z,h2,h3,h4,h5⟩
     ·cases h2
     ·cases h2
      exact⟨by rw[hs,h1];rfl,A,z,by rw[hZo,h1];rfl,h3,h4,h5⟩
   have e2:(n0.typ == 251)=s:=hs.symm;have HSZ:=qe hsz;have HZO:=qe hZo;have HNQ:=qe hnq;obtain⟨qb,Xj,rfl,c0,c1,c2⟩:∃qb Xj,qa=some ⟨qb,Xj,none⟩∧w2.cell? ⟨qb,Xj,none⟩=some (.string n0.name)∧w2.cell? ⟨qb,Xj+1,none⟩=some (.int .i64 n0.typ)∧w2.cell? ⟨qb,Xj+2,none⟩=some (.int .i64 n0.cls):=by
    obtain⟨_,_,hv,-,hr0⟩:=HQ.out.below YL.out;simp only[Value.slice.injEq,true_and]at hv;obtain⟨rfl,rfl⟩:=hv;obtain⟨qb,Xj,rfl,hqb,c0,c1,c2⟩:=hr0 0 (by simp);simp only[Nat.zero_mul,Nat.add_zero,List.getElem_cons_zero]at c0 c1 c2;exact⟨qb,Xj,rfl,c0,c1,c2⟩
   have m10:=(HM.out.below HB2.out).facts.2.2.2.2.2.2.2.2.2.2.1;have e3:(0:Int)<(([n0]:List Qn).length:Int):=by simp
   have e4:0<([n0]:List Qn).length:=by simp
   clear hx0 hty hcl hsz hZo hnq hs;go_upto_region 5 with fail
   go_cut [8] (fun tv wx=>∃bt,tv= .pointer (some ⟨bt,0,none⟩)∧TkB wx bt (.pointer zp) n0.name s (.slice none 0 0)∧Below w2.heap.size w2 wx∧w2.heap.size≤bt)
   case first=>
    go_region
    all_goals (go_wp2_with fail;go_meet;exact⟨w2.heap.size,rfl,qz rfl,((Below.refl _ _).alloc (Nat.le_refl _) _).drew,Nat.le_refl _⟩)
   obtain⟨bt,rfl,hT3,hB3,hbt⟩:=hcut;obtain⟨w3,hw3⟩:∃X:World,X=wc:=⟨_,rfl⟩;subst hw3;have HT3:=qe hT3;have XC:=qe hB3;have VH:=qe (YL.out.trans (hB3.mono YL.out.size));have HBT:=qe hbt;have um:=qe (HB2.out.trans (hB3.mono HB2.out.size));clear hT3 hB3 hbt c0 c1 c2 m10 e3 e4;go_wp2_with fail
   go_loopw [40] (fun kv wr=>∃k:Nat,k≤xs.length∧kv= .int .i64 (k:Int)∧Hid (∀j (hj:j<xs.length),j<k→tr.Ju M0 xs[j]=false)∧Hid (Below w3.heap.size w3 wr)) (fun kv _=>xs.length-(intOf kv).toNat)
   case atStart=>exact⟨0,Nat.zero_le _,rfl,qe (fun j hj h=>absurd h (Nat.not_lt_zero _)),qe (Below.refl _ _)⟩
   case round=>
    obtain⟨k,hk,rfl,HN,HB3R⟩:=hrel;obtain⟨wr4,hw4⟩:∃X:World,X=wr:=⟨_,rfl⟩;subst hw4;have HB0R:=qe (VH.out.trans (HB3R.out.mono VH.out.size));have HB1R:=qe (um.out.trans (HB3R.out.mono um.out.size));by_cases hlt:k<xs.length
    ·have hki:(k:Int)<(xs.length:Int):=by omega
     have ek:IntKind.i64.wrap ((k:Int)+1)=(k:Int)+1:=IntWalk.i64_in _ (by have:=HXL.out;omega);obtain⟨xb,xoff,mq,ma,mu,md,rfl,⟨c0,c1,c2,c3,c4,c5,c6,c7,c8,c9,c10,c11,c12,c13⟩,hin,hle⟩:=xS (HX.out.below HB0R.out) hlt;obtain⟨M,hM⟩:∃M,M=xs[k]:=⟨_,rfl⟩;rw[← hM]at c0 c1 c2 c3 c4 c5 c6 c7 c8 c9 hin hle;obtain⟨w5,hw5⟩:∃X,X=wr4.alloc (.cells (yG M.h mq ma mu md).toArray 33):=⟨_,rfl⟩;obtain⟨hB5,hs5,hm5⟩:=zC hw5;obtain⟨bx,hbx⟩:∃b,b=wr4.heap.size:=⟨_,rfl⟩;rw[← hbx]at hm5;obtain⟨mb,hmb⟩:∃b,b=wi.jE M.h M.qs M.an M.au M.ad:=⟨_,rfl⟩;have HCK:=qe (show ∀X,Below wr4.heap.size wr4 X→Calls Tryz.prog 34 #[yZ M.h mq ma mu md] X fun e w'=>e= .returned (.int .i64 (wi.okI mb))∧Below X.heap.size X w' from fun X hX=>by
      have h:=hin.below hX;rw[hmb];exact XQ M.h M.qs M.an M.au M.ad hle.1 hle.2.1 hle.2.2.1 hle.2.2.2 mq ma mu md X h.rq h.ra h.ru h.rd)
     obtain⟨eb,heb⟩:∃b,b=decide (M.qs= [n0]):=⟨_,rfl⟩;have HEQ:=qe (show ∀X,Below wr4.heap.size wr4 X→Calls Tryz.prog 89 #[mq,.slice (some ⟨qb,Xj,none⟩) ([n0]:List Qn).length qc] X fun e w'=>e= .returned (.bool eb)∧Below X.heap.size X w' from fun X hX=>by
      rw[heb];exact equalQ_any M.qs [n0] hle.1 _ _ X (hin.rq.below hX) (HQ.out.below (HB0R.out.trans (hX.mono HB0R.out.size))))
     obtain⟨mqa,mqc,rfl,-⟩:=id hin.rq;obtain⟨maa,mac,rfl,-⟩:=id hin.ra;obtain⟨mua,muc,rfl,-⟩:=id hin.ru;obtain⟨mda,mdc,rfl,-⟩:=id hin.rd;have HMX:=qe hM;have HW5:=qe hw5;have HB5:=qe hB5;have HM5:=qe hm5;have HBX:=qe hbx;have HMB:=qe hmb;have HEB:=qe heb;have HLT:=qe hlt;clear hM hin hle hw5 hB5 hs5 hm5 hbx hmb heb;go_upto_region 9 with fail;rw[← HW5.out,← HBX.out];clear c0 c1 c2 c3 c4 c5 c6 c7 c8 c9 c10 c11 c12 c13;obtain⟨x0,x1,x2,x3,x4,x5,x6,x7,x8,x9,x10,x11,x12,x13⟩:=HM5.out.facts;have Y0:=qe (HB1R.out.trans (HB5.out.mono HB1R.out.size));go_wp2_with fail;refine(HCK.out w5 HB5.out).mono ?_;rintro e w6 ⟨rfl,hB6⟩;have HB46:=qe (HB5.out.trans (hB6.mono HB5.out.size));have VG:=qe (Y0.out.trans (hB6.mono Y0.out.size));have HM6:=qe (HM5.out.below hB6);have HB06:=qe (HB0R.out.trans (HB46.out.mono HB0R.out.size));have XB:=qe (HB3R.out.trans (HB46.out.mono HB3R.out.size));clear hB6 x0 x1 x2 x3 x4 x5 x6 x7 x8 x9 x10 x11 x12 x13;obtain⟨x0,x1,x2,x3,x4,x5,x6,x7,x8,x9,x10,x11,x12,x13⟩:=HM6.out.facts;obtain⟨m0,m1,m2,m3,m4,m5,m6,m7,m8,m9,m10,m11,m12,m13⟩:=(HM.out.below VG.out).facts
     cases mb
     ·have d0:(wi.okI false != 0)=true:=rfl;have HE:=qe (show yP Z M0 (.pointer zp) xs w (.returned (.tuple #[.pointer none,kD 8])) w6 from⟨HB06.out,.inl ⟨8,by decide,tr.Z5 HAB.out.symm HLT.out (by rw[← HMX.out];unfold tr.Ju;(rw[← HMB.out];rfl)),rfl⟩⟩);go_wp2_with fail;go_ret2;exact HE.out
     ·have d0:(wi.okI true != 0)=false:=rfl
      cases hrs:M.h.Um
      ·have HE:=qe (show yP Z M0 (.pointer zp) xs w (.returned (.tuple #[.pointer none,kD 8])) w6 from⟨HB06.out,.inl ⟨8,by decide,tr.Z5 HAB.out.symm HLT.out (by rw[← HMX.out];unfold tr.Ju;(rw[hrs];simp)),rfl⟩⟩);go_wp2_with fail;go_ret2;exact HE.out
      ·by_cases hid:M.h.id=hi
       ·have d1:(M.h.id != hi)=false:=by rw[bne_eq_false_iff_eq];exact hid
        have HID:=qe hid;clear hid;by_cases hop:M.h.op=0
        ·have d2:(M.h.op != 0)=false:=by rw[bne_eq_false_iff_eq];exact hop
         have HOP:=qe hop;clear hop;go_wp2_with fail;refine(HEQ.out w6 HB46.out).mono ?_;rintro e w7 ⟨rfl,hB7⟩;have HB07:=qe (HB06.out.trans (hB7.mono HB06.out.size));have HB37:=qe (XB.out.trans (hB7.mono XB.out.size));have HM7:=qe (HM6.out.below hB7);clear hB7 x0 x1 x2 x3 x4 x5 x6 x7 x8 x9 x10 x11 x12 x13 m0 m1 m2 m3 m4 m5 m6 m7 m8 m9 m10 m11 m12 m13;obtain⟨x0,x1,x2,x3,x4,x5,x6,x7,x8,x9,x10,x11,x12,x13⟩:=HM7.out.facts
         cases eb
         ·have HE:=qe (show yP Z M0 (.pointer zp) xs w (.returned (.tuple #[.pointer none,kD 8])) w7 from⟨HB07.out,.inl ⟨8,by decide,tr.Z5 HAB.out.symm HLT.out (by rw[← HMX.out];unfold tr.Ju;(rw[HMQ.out,← HEB.out];simp)),rfl⟩⟩);go_wp2_with fail;go_ret2;exact HE.out
         ·by_cases hau:M.au.length=0
          ·have d3:¬((0:Int)<(M.au.length:Int)):=by omega
           have HN2:=qe (show ∀j (hj:j<xs.length),j<k+1→tr.Ju M0 xs[j]=false from fun j hj h=>by
            by_cases e:j<k
            ·exact HN.out j hj e
            ·obtain rfl:j=k:=by omega
             rw[← HMX.out];unfold tr.Ju;rw[← HMB.out,hrs,HID.out,HMI.out,HOP.out,HMQ.out,← HEB.out,hau];simp)
           have HAU:=qe hau;clear hau;go_wp2_with fail
           go_roundw
           case rel=>exact⟨k+1,by have:=HLT.out;omega,by go_num,HN2,HB37⟩
           case measure=>simp[intOf];omega
          ·have d3:(0:Int)<(M.au.length:Int):=by omega
           have HE:=qe (show yP Z M0 (.pointer zp) xs w (.returned (.tuple #[.pointer none,kD 8])) w7 from⟨HB07.out,.inl ⟨8,by decide,tr.Z5 HAB.out.symm HLT.out (by rw[← HMX.out];unfold tr.Ju;(simp[hau])),rfl⟩⟩);go_wp2_with fail;go_ret2;exact HE.out
        ·have d2:(M.h.op != 0)=true:=by rw[bne_iff_ne];exact hop
         have HE:=qe (show yP Z M0 (.pointer zp) xs w (.returned (.tuple #[.pointer none,kD 8])) w6 from⟨HB06.out,.inl ⟨8,by decide,tr.Z5 HAB.out.symm HLT.out (by rw[← HMX.out];unfold tr.Ju;(simp[hop])),rfl⟩⟩);go_wp2_with fail;go_ret2;exact HE.out
       ·have d1:(M.h.id != hi)=true:=by rw[bne_iff_ne];exact hid
        have HE:=qe (show yP Z M0 (.pointer zp) xs w (.returned (.tuple #[.pointer none,kD 8])) w6 from⟨HB06.out,.inl ⟨8,by decide,tr.Z5 HAB.out.symm HLT.out (by rw[← HMX.out];unfold tr.Ju;(rw[HMI.out];simp[hid])),rfl⟩⟩);go_wp2_with fail;go_ret2;exact HE.out
    ·have HNA:=qe (show ∀j (hj:j<xs.length),tr.Ju M0 xs[j]=false from fun j hj=>HN.out j hj (by omega));obtain rfl:k=xs.length:=by omega
     clear hlt hk;have HG0:=qe (show Gat w bt (.pointer zp) n0.name s wr4 (.slice none 0 0) (tr.rowsOf (xs.take 0)) from⟨HB0R.out,HT3.out.below HB3R.out,World.ownsRow_nil _ _ _ _,fun b hb=>(by cases hb),by have:=YL.out.size;have:=HBT.out;omega⟩);go_wp2_with fail
     go_loopw [83] (fun kv wr=>∃(k:Nat) (lv:Value),k≤xs.length∧kv= .int .i64 (k:Int)∧Hid (∀j (hj:j<xs.length),j<k→xs[j].h.jq=0)∧Hid (Gat w bt (.pointer zp) n0.name s wr lv (tr.rowsOf (xs.take k)))) (fun kv _=>xs.length-(intOf kv).toNat)
     case atStart=>exact⟨0,_,Nat.zero_le _,rfl,qe (fun j hj h=>absurd h (Nat.not_lt_zero _)),HG0⟩
     case round=>
      obtain⟨k,lv,hk,rfl,HC,HG⟩:=hrel;obtain⟨wr5,hw5⟩:∃X:World,X=wr:=⟨_,rfl⟩;subst hw5;by_cases hlt:k<xs.length
      ·have hki:(k:Int)<(xs.length:Int):=by omega
       have ek:IntKind.i64.wrap ((k:Int)+1)=(k:Int)+1:=IntWalk.i64_in _ (by have:=HXL.out;omega);obtain⟨xb,xoff,mq,ma,mu,md,rfl,⟨c0,c1,c2,c3,c4,c5,c6,c7,c8,c9,c10,c11,c12,c13⟩,hin,hle⟩:=xS (HX.out.below HG.out.below) hlt;obtain⟨M,hM⟩:∃M,M=xs[k]:=⟨_,rfl⟩;rw[← hM]at c0 c1 c2 c3 c4 c5 c6 c7 c8 c9 hin;obtain⟨w5,hw5⟩:∃X,X=wr5.alloc (.cells (yG M.h mq ma mu md).toArray 33):=⟨_,rfl⟩;obtain⟨hB5,hs5,hm5⟩:=zC hw5;obtain⟨bx,hbx⟩:∃b,b=wr5.heap.size:=⟨_,rfl⟩;rw[← hbx]at hm5;obtain⟨mqa,mqc,rfl,-⟩:=id hin.rq;obtain⟨maa,mac,rfl,-⟩:=id hin.ra;obtain⟨mua,muc,rfl,-⟩:=id hin.ru;obtain⟨mda,mdc,rfl,-⟩:=id hin.rd;have HMX:=qe hM;have HW5:=qe hw5;have HB5:=qe hB5;have HM5:=qe hm5;have HBX:=qe hbx;have HLT:=qe hlt;have HRA:=qe (hin.ra.below hB5);have HG5:=qe (HG.out.moved hB5);have hrn:=tr.rows_next (xs:=xs) hlt;rw[← hM]at hrn;have HRN:=qe hrn;have HLN:=qe (show(tr.rowsOf (xs.take k)).length+M.an.length≤1000000000 by
        have h1:=tr.rows_le (xs:=xs) (k:=k+1);rw[hrn,List.length_append]at h1;have:=HRL.out;omega)
       clear hM hin hle hw5 hB5 hs5 hm5 hbx hrn;go_upto_region 15 with fail;rw[← HW5.out,← HBX.out];clear c0 c1 c2 c3 c4 c5 c6 c7 c8 c9 c10 c11 c12 c13;obtain⟨x0,x1,x2,x3,x4,x5,x6,x7,x8,x9,x10,x11,x12,x13⟩:=HM5.out.facts;obtain⟨t0,t1,t2,t3⟩:=HG5.out.tk.cells;by_cases hrc:M.h.jq=0
       ·have d0:(M.h.jq != 0)=false:=by rw[bne_eq_false_iff_eq];exact hrc
        have HC2:=qe (show ∀j (hj:j<xs.length),j<k+1→xs[j].h.jq=0 from fun j hj h=>by
         by_cases e:j<k
         ·exact HC.out j hj e
         ·obtain rfl:j=k:=by omega
          rw[← HMX.out];exact hrc)
        clear hrc;go_upto_region 17 with fail
        go_region_law (refine K9 rfl _ _ rfl w.heap.size _ _ _ rfl (show w5.drew.ownsRow w.heap.size _ 5 lv _ _ from HG5.out.own) _ _ (show qm w5.drew (.slice maa M.an.length mac) M.an from HRA.out) rfl HLN.out (show w.heap.size≤w5.drew.heap.size from HG5.out.below.size) ?_;intro vP wP hoP hgP hnP;obtain⟨htP,hGP⟩:=Gat.more (HG5.out.moved (Below.refl _ _).drew) hgP hnP hoP;obtain⟨pa,pc,rfl,-⟩:=qi hoP;obtain⟨-,-,-,p3⟩:=htP.cells;have fP:=qE htP 3)
        all_goals
         have HG9:=qe (show Gat w bt (.pointer zp) n0.name s (wP.setCell ⟨bt,3,none⟩ (.slice pa ((tr.rowsOf (xs.take k)).length+M.an.length) pc)) (.slice pa ((tr.rowsOf (xs.take k)).length+M.an.length) pc) (tr.rowsOf (xs.take (k+1))) from by rw[HRN.out];exact hGP);clear p3 fP htP hGP hoP hgP hnP;go_wp2_with fail
         go_roundw
         case rel=>exact⟨k+1,_,by have:=HLT.out;omega,by go_num,HC2,HG9⟩
         case measure=>simp[intOf];omega
       ·have d0:(M.h.jq != 0)=true:=by rw[bne_iff_ne];exact hrc
        have HE:=qe (show yP Z M0 (.pointer zp) xs w (.returned (.tuple #[.pointer none,kD 28])) w5 from⟨HG5.out.below,.inl ⟨28,by decide,tr.take_code HAB.out.symm HNA.out HLT.out (by rw[← HMX.out];exact hrc),rfl⟩⟩);clear hrc;go_wp2_with fail;go_ret2;exact HE.out
      ·have HCA:=qe (show ∀j (hj:j<xs.length),xs[j].h.jq=0 from fun j hj=>HC.out j hj (by omega));have hgg:=HG.out;rw[List.take_of_length_le (by omega)]at hgg;have HGG:=qe hgg;have HTR:=qe (tr.take_row HAB.out.symm HX0.out HNA.out HCA.out);obtain rfl:k=xs.length:=by omega
       clear hlt hk hgg HG;have hal:∀r∈tr.rowsOf xs,wi.qR r=true:=fun r hr=>by
        unfold tr.rowsOf at hr;obtain⟨m,hm,hr⟩:=List.mem_flatMap.1 hr;obtain⟨j,hj,rfl⟩:=List.getElem_of_mem hm;exact tr.bad_rows (HNA.out j hj) r hr
       have htr:=HTR.out;rw[HNQ.out,← HZO.out]at htr;obtain⟨R,hR⟩:∃R,R=tr.rowsOf xs:=⟨_,rfl⟩;have hgg:=HGG.out;have hrl:=HRL.out;rw[← hR]at hal htr hgg hrl;have HAL:=qe hal;have HTK:=qe htr;have HGR:=qe hgg;have HRR:=qe hrl;obtain⟨la,lc,rfl,-⟩:=qi hgg.own;obtain⟨t0,t1,t2,t3⟩:=hgg.tk.cells;clear hR hal htr hgg hrl HGG HTR
       cases R with
       | nil=>
         have HE:=qe (show ∀X,Below wr5.heap.size wr5 X→yP Z M0 (.pointer zp) xs w (.returned (.tuple #[.pointer none,kD 15])) X from fun X hX=>⟨HGR.out.below.trans (hX.mono HGR.out.below.size),.inl ⟨15,by decide,HTK.out.trans rfl,rfl⟩⟩);have t3':wr5.cell? ⟨bt,3,none⟩=some (.slice la 0 lc):=t3;clear t3;go_upto_region 19 with fail
         go_quiet (fail)
         obtain⟨w6,hw6⟩:∃X,X=wr5.drewN nq:=⟨_,rfl⟩;rw[← hw6];have HB6:=qe (show Below wr5.heap.size wr5 w6 from by rw[hw6];exact zO (Below.refl _ _) nq);clear hw6;clear t0 t1 t2 t3';go_wp2_with fail;go_ret2;exact HE.out w6 HB6.out
       | cons x tl=>
         have HE:=qe (show(x.typ≠6∨x.data.size=0∨qF x.owner n0.name=false)→∀X,Below wr5.heap.size wr5 X→yP Z M0 (.pointer zp) xs w (.returned (.tuple #[.pointer none,kD 15])) X from fun hx X hX=>⟨HGR.out.below.trans (hX.mono HGR.out.below.size),.inl ⟨15,by decide,HTK.out.trans (tr.row_soa hx),rfl⟩⟩);obtain⟨rg,rc',hla,-,-⟩:=HGR.out.own.form (by simp);simp only[Value.slice.injEq,true_and]at hla;obtain⟨rfl,rfl⟩:=hla;obtain⟨hrg,r0,r1,r2,r3,r4⟩:=qL (qD HGR.out.own) (j:=0) (by simp);simp only[List.getElem_cons_zero,Nat.zero_mul,Nat.add_zero,Nat.zero_add]at r0 r1 r2 r3 r4;obtain⟨m,hm⟩:∃m,m=(x :: tl).length:=⟨_,rfl⟩;have hm2:m=tl.length+1:=by rw[hm];rfl
         rw[← hm]at t3;have e5:((m:Int) == 0)=false:=by rw[beq_eq_false_iff_ne];omega
         have e6:(0:Int)<(m:Int):=by omega
         have e8:¬(m=0):=by omega
         have e9:(m == 0)=false:=by rw[beq_eq_false_iff_ne];omega
         have e7:0<m:=by omega
         have HM2:=qe hm;have HRG:=qe hrg;clear hm hm2 hrg;by_cases k6:x.typ=6
         ·have e10:(x.typ != 6)=false:=by rw[bne_eq_false_iff_eq];exact k6
          by_cases kd:x.data.size=0
          ·have e11:=yQ kd;have HKD:=qe kd;clear kd k6;go_upto_region 19 with fail
           go_quiet (fail)
           obtain⟨w6,hw6⟩:∃X,X=wr5.drewN nq:=⟨_,rfl⟩;rw[← hw6];have HB6:=qe (show Below wr5.heap.size wr5 w6 from by rw[hw6];exact zO (Below.refl _ _) nq);clear hw6;clear t0 t1 t2 t3 r0 r1 r2 r3 r4;go_wp2_with fail;go_ret2;exact HE.out (.inr (.inl HKD.out)) w6 HB6.out
          ·have e11:=ji kd;obtain⟨eb,heb⟩:∃b,b=qF x.owner n0.name:=⟨_,rfl⟩;have HKD:=qe kd;have HK6:=qe k6;have HEB:=qe heb;have HEN:=qe (show ∀X,Calls Tryz.prog 62 #[.string x.owner,.string n0.name] X fun e w'=>e= .returned (.bool eb)∧Below X.heap.size X w' from fun X=>by rw[heb];exact QV x.owner n0.name X);clear kd k6 heb;have zD:=qe (show ∀X,Below wr5.heap.size wr5 X→Below wr5.heap.size wr5 X∧X.cell? ⟨bt,1,none⟩=some (.string n0.name)∧X.cell? ⟨bt,3,none⟩=some (.slice (some ⟨rg,0,none⟩) m lc)∧X.cell? ⟨rg,0,none⟩=some (.string x.owner)∧X.cell? ⟨rg,1,none⟩=some (.int .i64 x.typ)∧X.cell? ⟨rg,4,none⟩=some (.string x.data) from fun X hX=>
            ⟨hX,(hX.cell (p:=⟨bt,_,none⟩) (yo HGR.out.tk)).trans t1,(hX.cell (p:=⟨bt,_,none⟩) (yo HGR.out.tk)).trans t3,(hX.cell (p:=⟨rg,_,none⟩) HRG.out).trans r0,(hX.cell (p:=⟨rg,_,none⟩) HRG.out).trans r1,(hX.cell (p:=⟨rg,_,none⟩) HRG.out).trans r4⟩)
           go_upto_region 19 with fail
           go_cut [143] (fun sv wx=>sv= .bool (!eb)∧Below wr5.heap.size wr5 wx)
           case first=>
            go_region_held3 (fun X=>Below wr5.heap.size wr5 X∧X.cell? ⟨bt,1,none⟩=some (.string n0.name)∧X.cell? ⟨bt,3,none⟩=some (.slice (some ⟨rg,0,none⟩) m lc)∧X.cell? ⟨rg,0,none⟩=some (.string x.owner)∧X.cell? ⟨rg,1,none⟩=some (.int .i64 x.typ)∧X.cell? ⟨rg,4,none⟩=some (.string x.data))
             (first | assumption | exact zD.out _ (Below.refl _ _).drew | (go_split_ands;exact zD.out _ (by assumption)))
             (first | (go_at_call 62;(with_reducible refine(HEN.out _).mono ?_);rintro e wX ⟨rfl,hbX⟩;go_split_ands;have J5:=Below.trans (B:=wr5.heap.size) (a:=wr5) (by assumption) (hbX.mono (Below.size (by assumption)))))
            all_goals (go_wp2_with fail;go_meet;exact⟨rfl,J5⟩)
           obtain⟨rfl,hB6⟩:=hcut;obtain⟨w6,hw6⟩:∃X:World,X=wc:=⟨_,rfl⟩;subst hw6;have HB6:=qe hB6;clear hB6 t0 t1 t2 t3 r0 r1 r2 r3 r4
           cases eb
           ·go_wp2_with fail;go_ret2;exact HE.out (.inr (.inr HEB.out.symm)) w6 HB6.out
           ·have HF:=qe (show yP Z M0 (.pointer zp) xs w (.returned (.tuple #[.pointer (some ⟨bt,0,none⟩),.nilIface])) w6 from by
             have hg6:=HGR.out.moved HB6.out;obtain⟨u0,u1,u2,u3⟩:=hg6.tk.cells;refine⟨hg6.below,.inr ⟨bt,n0.name,s,Zo,x,tl,_,rfl,HTK.out,by have:=HRR.out;simp only[List.length_cons]at this;omega,fun r hr=>right_typ (HAL.out r hr),?_,right_soa (HAL.out x (by simp)) HK6.out HKD.out,HSZ.out.below hg6.below,qD hg6.own,yo hg6.tk,u0,u1,u2,u3⟩⟩;rintro(h | h | h)
             ·exact h HK6.out
             ·exact HKD.out h
             ·rw[← HEB.out]at h;cases h)
            go_wp2_with fail;go_ret2;exact HF.out
         ·have e10:(x.typ != 6)=true:=by rw[bne_iff_ne];exact k6
          have HK6:=qe k6;clear k6;go_upto_region 19 with fail
          go_quiet (fail)
          obtain⟨w6,hw6⟩:∃X,X=wr5.drewN nq:=⟨_,rfl⟩;rw[← hw6];have HB6:=qe (show Below wr5.heap.size wr5 w6 from by rw[hw6];exact zO (Below.refl _ _) nq);clear hw6;clear t0 t1 t2 t3 r0 r1 r2 r3 r4;go_wp2_with fail;go_ret2;exact HE.out (.inl HK6.out) w6 HB6.out
end Go.Proofs.YtpcmilhjpmlbpaaGreatDoor
namespace Go.Proofs.YtpcmilhjpmlbpaaGreatDoor
open Go.RowKit Go.Extern.Stop Go.Stop Go.Extern
theorem as_nil7 (t:Value)(w:World):
 Calls Tryz.prog 53 #[.nilIface,t] w fun e w'=>e= .returned (.bool false)∧w'=w:=by
 go_enter Tryz.func53,Tryz.ntmps53
 go_wp2
 go_ret;exact⟨rfl,rfl⟩
theorem as_valueP (t:Addr)(w:World):(ReflectliteValue.unpack (.iface 107 (.pointer (some t)))).run Tryz.prog w
 = .ok (.agg #[.pointer (some ⟨2,107,none⟩),.pointer (some ⟨w.heap.size,0,none⟩),.int .u64 150]) (w.alloc (.cells #[.pointer (some t)] 107)):=by kernel_rfl
theorem as_typeP (a:Addr)(w:World):(ReflectliteValue.methodAny (ReflectliteValue.valueError "reflectlite.Value.Type" 0) (fun t _ _ _=>ReflectliteType.toType t) #[.agg #[.pointer (some ⟨2,107,none⟩),.pointer (some a),.int .u64 150]]).run Tryz.prog w
 = .ok (.iface 191 (.agg #[.pointer (some ⟨2,107,none⟩)])) w:=by kernel_rfl
theorem as_methodKind (h:Value)(w:World):(Go.method 395 191 (.agg #[h]) "Kind").run Tryz.prog w= .ok (204,h) w:=by kernel_rfl
theorem as_kindP (w:World):((ReflectliteType.abiMethod fun t=>(fun a:Nat=>Value.int IntKind.u8 (a:Int)) <$> Rtype.kind t) #[.pointer (some ⟨2,107,none⟩)]).run Tryz.prog w= .ok (.int .u8 22) w:=by kernel_rfl
theorem as_kindS (w:World):((ReflectliteType.abiMethod fun t=>(fun a:Nat=>Value.int IntKind.u8 (a:Int)) <$> Rtype.kind t) #[.pointer (some ⟨2,105,none⟩)]).run Tryz.prog w= .ok (.int .u8 25) w:=by kernel_rfl
theorem as_rlm (z:Sem Value)(f:TypeId→Addr→Nat→Nat→Sem Value)(v:Value):
 ReflectliteValue.method z f #[v]=(do match ← ReflectliteValue.parts v with | none=>z | some (t,a,fl)=>f t a fl (fl % 32)):=rfl
theorem as_partsP (a:Addr)(w:World):(ReflectliteValue.parts (.agg #[.pointer (some ⟨2,107,none⟩),.pointer (some a),.int .u64 150])).run Tryz.prog w= .ok (some (107,a,150)) w:=by kernel_rfl
theorem as_isNilP (a p:Addr)(W:World)(ha:W.cell? a=some (.pointer (some p))):
 (ReflectliteValue.method (ReflectliteValue.valueError "reflectlite.Value.IsNil" 0) ReflectliteValue.isNil #[.agg #[.pointer (some ⟨2,107,none⟩),.pointer (some a),.int .u64 150]]).run Tryz.prog W= .ok (.bool false) W:=by
 rw[as_rlm];simp only[Sem.run_bind,as_partsP,Result.andThen];simp[ReflectliteValue.isNil,loadVar,isAgg,underlying,Tryz.underlying107,ha,Result.andThen]
theorem as_methodElem (h:Value)(w:World):(Go.method 395 191 (.agg #[h]) "Elem").run Tryz.prog w= .ok (214,.agg #[h]) w:=by kernel_rfl
theorem J8 (h:Value)(w:World):(Go.method 395 191 (.agg #[h]) "Implements").run Tryz.prog w= .ok (215,.agg #[h]) w:=by kernel_rfl
theorem YX (h:Value)(w:World):(Go.method 395 191 (.agg #[h]) "AssignableTo").run Tryz.prog w= .ok (212,.agg #[h]) w:=by kernel_rfl
theorem as_elemP (w:World):(ReflectliteType.method ReflectliteType.elem #[.agg #[.pointer (some ⟨2,107,none⟩)]]).run Tryz.prog w= .ok (.iface 191 (.agg #[.pointer (some ⟨2,105,none⟩)])) w:=by kernel_rfl
theorem as_implementsS (w:World):(ReflectliteType.relation "Implements" ReflectliteType.implements_ #[.agg #[.pointer (some ⟨2,105,none⟩)],.iface 191 (.agg #[.pointer (some ⟨2,99,none⟩)])]).run Tryz.prog w= .ok (.bool true) w:=by kernel_rfl
theorem as_typeOfS (v:Value)(w:World):(ReflectliteType.typeOf #[.iface 105 v]).run Tryz.prog w= .ok (.iface 191 (.agg #[.pointer (some ⟨2,105,none⟩)])) w:=by kernel_rfl
theorem as_assignableS (w:World):(ReflectliteType.relation "AssignableTo" ReflectliteType.assignableTo #[.agg #[.pointer (some ⟨2,105,none⟩)],.iface 191 (.agg #[.pointer (some ⟨2,105,none⟩)])]).run Tryz.prog w= .ok (.bool true) w:=by kernel_rfl
theorem as_valueS (c:Int)(w:World):(ReflectliteValue.unpack (.iface 105 (.agg #[.int .i64 c]))).run Tryz.prog w
 = .ok (.agg #[.pointer (some ⟨2,105,none⟩),.pointer (some ⟨w.heap.size,0,none⟩),.int .u64 153]) (w.alloc (.cells #[.int .i64 c] 105)):=by kernel_rfl
theorem as_elemOfP (w:World):(Rtype.elem? 107).run Tryz.prog w= .ok (some 105) w:=by kernel_rfl
theorem as_mkS (p:Addr)(w:World):(ReflectliteValue.mk 105 p ReflectliteValue.flagAddr).run Tryz.prog w= .ok (.agg #[.pointer (some ⟨2,105,none⟩),.pointer (some p),.int .u64 409]) w:=by kernel_rfl
theorem as_elemVP (a p:Addr)(W:World)(ha:W.cell? a=some (.pointer (some p))):
 (ReflectliteValue.method (ReflectliteValue.valueError "reflectlite.Value.Elem" 0) ReflectliteValue.elem #[.agg #[.pointer (some ⟨2,107,none⟩),.pointer (some a),.int .u64 150]]).run Tryz.prog W
  = .ok (.agg #[.pointer (some ⟨2,105,none⟩),.pointer (some p),.int .u64 409]) W:=by
 rw[as_rlm];simp only[Sem.run_bind,as_partsP,Result.andThen];simp[ReflectliteValue.elem,loadVar,isAgg,underlying,Tryz.underlying107,ha,Result.andThen,as_elemOfP,as_mkS]
theorem as_rls (v x:Value):ReflectliteValue.set #[v,x]=(do
 let (some (dst,a,fl),some (src,b,_)):=(← ReflectliteValue.parts v,← ReflectliteValue.parts x)
  | unsupported (.noEntry "extern/(internal/reflectlite.Value).Set.zeroValue")
 if fl / ReflectliteValue.flagAddr % 2 == 0 then unsupported (.noEntry "extern/(internal/reflectlite.Value).Set.unaddressable")
 let val ← loadVar src b
 if ← Rtype.directlyAssignable dst src then storeVar dst a val
 else if ← Rtype.implements dst src then
  if(← Rtype.kind src) == 20 then
   match val with
   | .nilIface=>unsupported (.noEntry "extern/reflectlite: a nil value of one interface type handed on as a value of another")
   | _=>storeVar dst a val
  else storeVar dst a (.iface src val)
 else panicString ("reflectlite.Set: value of type " ++ (← Rtype.spelt src) ++ " is not assignable to type " ++ (← Rtype.spelt dst))
 pure (.tuple #[])):=rfl
theorem as_partsSa (a:Addr)(w:World):(ReflectliteValue.parts (.agg #[.pointer (some ⟨2,105,none⟩),.pointer (some a),.int .u64 409])).run Tryz.prog w= .ok (some (105,a,409)) w:=by kernel_rfl
theorem as_partsS (a:Addr)(w:World):(ReflectliteValue.parts (.agg #[.pointer (some ⟨2,105,none⟩),.pointer (some a),.int .u64 153])).run Tryz.prog w= .ok (some (105,a,153)) w:=by kernel_rfl
theorem as_directS (w:World):(Rtype.directlyAssignable 105 105).run Tryz.prog w= .ok true w:=by kernel_rfl
theorem as_setS (ta b:Addr)(c:Int)(old:Value)(W:World)(hb:W.cell? b=some (.int .i64 c))(ht:W.cell? ta=some old)(hf:W.frozen? ta=false):
 (ReflectliteValue.set #[.agg #[.pointer (some ⟨2,105,none⟩),.pointer (some ta),.int .u64 409],.agg #[.pointer (some ⟨2,105,none⟩),.pointer (some b),.int .u64 153]]).run Tryz.prog W
  = .ok (.tuple #[]) (W.setCell ta (.int .i64 c)):=by
 rw[as_rls];simp only[Sem.run_bind,as_partsSa,as_partsS,Result.andThen];simp[ReflectliteValue.flagAddr,loadVar,isAgg,underlying,Tryz.underlying105,hb,Result.andThen,as_directS,loadCells,loadCellsFrom,storeVar,Value.cells,storeCells,Addr.add];rw[run_store Tryz.prog W ta _ _ (by rfl)];simp[ht,hf]
theorem as_hit7 (c:Int)(t:Addr)(old:Value)(w:World)(hg:w.cell? ⟨0,0,none⟩=some (.iface 191 (.agg #[.pointer (some ⟨2,99,none⟩)])))(ht0:w.cell? t=some old)(hf0:w.frozen? t=false):
 Calls Tryz.prog 53 #[.iface 105 (.agg #[.int .i64 c]),.iface 107 (.pointer (some t))] w fun ev w'=>ev= .returned (.bool true)∧∃w1,Below w.heap.size w w1∧w'=w1.setCell t (.int .i64 c):=by
 have h6:=@run_callFunc_extern Tryz.prog 92 _ (fun args=>ReflectliteValue.unpack (args.getD 0 (.tuple #[]))) Tryz.func92 (by kernel_rfl) (by kernel_rfl) (by kernel_rfl) (by kernel_rfl)
 have h7:=@run_callFunc_extern Tryz.prog 93 _ (ReflectliteValue.methodAny (ReflectliteValue.valueError "reflectlite.Value.Type" 0) (fun t _ _ _=>ReflectliteType.toType t)) Tryz.func93 (by kernel_rfl) (by kernel_rfl) (by kernel_rfl) (by kernel_rfl)
 have h8:=@run_callFunc_extern Tryz.prog 94 _ (ReflectliteValue.method (ReflectliteValue.valueError "reflectlite.Value.IsNil" 0) ReflectliteValue.isNil) Tryz.func94 (by kernel_rfl) (by kernel_rfl) (by kernel_rfl) (by kernel_rfl)
 have h27:=@run_callFunc_extern Tryz.prog 204 _ (ReflectliteType.abiMethod fun t=>do pure (.int .u8 (← Rtype.kind t))) Tryz.func204 (by kernel_rfl) (by kernel_rfl) (by kernel_rfl) (by kernel_rfl);have h37:=@run_callFunc_extern Tryz.prog 214 _ (ReflectliteType.method ReflectliteType.elem) Tryz.func214 (by kernel_rfl) (by kernel_rfl) (by kernel_rfl) (by kernel_rfl)
 have h38:=@run_callFunc_extern Tryz.prog 215 _ (ReflectliteType.relation "Implements" ReflectliteType.implements_) Tryz.func215 (by kernel_rfl) (by kernel_rfl) (by kernel_rfl) (by kernel_rfl)
 have h10:=@run_callFunc_extern Tryz.prog 143 _ ReflectliteType.typeOf Tryz.func143 (by kernel_rfl) (by kernel_rfl) (by kernel_rfl) (by kernel_rfl)
 have h35:=@run_callFunc_extern Tryz.prog 212 _ (ReflectliteType.relation "AssignableTo" ReflectliteType.assignableTo) Tryz.func212 (by kernel_rfl) (by kernel_rfl) (by kernel_rfl) (by kernel_rfl)
 have h11:=@run_callFunc_extern Tryz.prog 144 _ (ReflectliteValue.method (ReflectliteValue.valueError "reflectlite.Value.Elem" 0) ReflectliteValue.elem) Tryz.func144 (by kernel_rfl) (by kernel_rfl) (by kernel_rfl) (by kernel_rfl)
 have h12:=@run_callFunc_extern Tryz.prog 145 _ ReflectliteValue.set Tryz.func145 (by kernel_rfl) (by kernel_rfl) (by kernel_rfl) (by kernel_rfl);have tO:=as_typeOfS;have mA:=YX;have a25:=as_assignableS;have v25:=as_valueS;have f6:=as_valueP;have f7:=as_typeP;have mK:=as_methodKind;have mE:=as_methodElem;have mI:=J8;have k27:=as_kindP;have k25:=as_kindS;have e27:=as_elemP;have i25:=as_implementsS;have n8:=as_isNilP ⟨w.heap.size,0,none⟩ t ((w.alloc (.cells #[.pointer (some t)] 107)).alloc (.cells #[.pointer (some ⟨2,107,none⟩),.pointer (some ⟨w.heap.size,0,none⟩),.int .u64 150] 157)) (by simp);have hlt:0<w.heap.size:=by
  rcases Nat.eq_zero_or_pos w.heap.size with h0 | h
  ·simp[World.cell?,h0]at hg
  ·exact h
 have hg2:((w.alloc (.cells #[.pointer (some t)] 107)).alloc (.cells #[.pointer (some ⟨2,107,none⟩),.pointer (some ⟨w.heap.size,0,none⟩),.int .u64 150] 157)).cell? ⟨0,0,none⟩=some (.iface 191 (.agg #[.pointer (some ⟨2,99,none⟩)])):=by
  rw[World.cell?_alloc_lt _ _ ⟨0,0,none⟩ (by simp),World.cell?_alloc_lt _ _ ⟨0,0,none⟩ hlt];exact hg
 have htl:t.block<w.heap.size:=by
  rcases Nat.lt_or_ge t.block w.heap.size with h | h
  ·exact h
  ·simp[World.cell?,Array.getElem?_eq_none h]at ht0
 have el:=as_elemVP ⟨w.heap.size,0,none⟩ t (((w.alloc (.cells #[.pointer (some t)] 107)).alloc (.cells #[.pointer (some ⟨2,107,none⟩),.pointer (some ⟨w.heap.size,0,none⟩),.int .u64 150] 157)).alloc (.cells #[.pointer (some ⟨2,107,none⟩),.pointer (some ⟨w.heap.size,0,none⟩),.int .u64 150] 157)) (by rw[World.cell?_alloc_lt _ _ ⟨w.heap.size,0,none⟩ (by simp;omega)];simp);have st:=as_setS t ⟨w.heap.size+1+1+1,0,none⟩ c old ((((w.alloc (.cells #[.pointer (some t)] 107)).alloc (.cells #[.pointer (some ⟨2,107,none⟩),.pointer (some ⟨w.heap.size,0,none⟩),.int .u64 150] 157)).alloc (.cells #[.pointer (some ⟨2,107,none⟩),.pointer (some ⟨w.heap.size,0,none⟩),.int .u64 150] 157)).alloc (.cells #[.int .i64 c] 105))
  (by rw[World.cell?_alloc_at _ _ _ _ (by simp)];rfl)
  (by rw[World.cell?_alloc_lt _ _ t (by simp;omega),World.cell?_alloc_lt _ _ t (by simp;omega),World.cell?_alloc_lt _ _ t (by simp;omega),World.cell?_alloc_lt _ _ t htl];exact ht0)
  (by rw[World.frozen?_alloc_old _ _ t (by simp;omega),World.frozen?_alloc_old _ _ t (by simp;omega),World.frozen?_alloc_old _ _ t (by simp;omega),World.frozen?_alloc_old _ _ t (Nat.ne_of_lt htl)];exact hf0)
 go_enter Tryz.func53,Tryz.ntmps53
 go_wp2
 refine wp_loop_rounds 1 ?_;rw[rounds_succ]
 go_wp2
 go_ret;exact⟨rfl,_,((((Below.refl w.heap.size w).alloc (Nat.le_refl _) _).alloc (by simp) _).alloc (by simp;omega) _).alloc (by simp;omega) _,rfl⟩
end Go.Proofs.YtpcmilhjpmlbpaaGreatDoor
namespace Go.Proofs.YtpcmilhjpmlbpaaGreatDoor
open Go.RowKit Go.Shelf nm od
def ErrT (w:World):Prop:=w.cell? ⟨0,0,none⟩=some (.iface 191 (.agg #[.pointer (some ⟨2,99,none⟩)]))
theorem ErrT.below {w w':World}(h:ErrT w)(hB:Below w.heap.size w w'):ErrT w':=(hB.cell (p:=⟨0,0,none⟩) (World.block_lt_of_cell? _ _ h)).trans h
def Qr (o:tr.Out)(zv:Value)(w:World)(e:Ending)(w':World):Prop:=Below w.heap.size w w'∧match o with
 | .err c=>c≠0∧e= .returned (.tuple #[.pointer none,.int .i64 c])
 | .same=>e= .returned (.tuple #[zv,.int .i64 0])
 | .make ap l=>(zn.yO ap l=none∧∃top z L,zS l L∧e= .returned (.tuple #[qW z,.int .i64 0])∧jA w' top z ap L)∨∃k c,zn.yO ap l=some (k,c)∧c≠0∧e= .returned (.tuple #[.pointer none,.int .i64 c])
theorem KZ {a b c d:Value}(h:Ending.returned (.tuple #[a,b])= .returned (.tuple #[c,d])):a=c∧b=d:=by
 simp only[Ending.returned.injEq,Value.tuple.injEq,Array.mk.injEq,List.cons.injEq,and_true]at h;exact h
theorem take7_any (Z:Option tr.Zn)(zv:Value)(hi:Int)(rs:Bool)(op:Int)(b3 b4 b5 b6 b7 b8:Bool)(rc:Int)(qs:List Qn)(an au ad:List Rec)
 (hq:qs.length≤1000000000000) (ha:an.length≤1000000000000) (hu:au.length≤1000000000000) (hd:ad.length≤1000000000000)
 (q a u d:Value) (xs:List Msg) (hxl:xs.length≤1000000000) (hrl:(tr.rowsOf xs).length≤10000000) (xv:Value) (w:World) (het:ErrT w) (hz:ZHas w zv Z) (rq:yu w q qs) (ra:qm w a an) (ru:qm w u au) (rd:qm w d ad) (hx:jB w xv xs):
 Calls Tryz.prog 20 #[zv,yZ ⟨hi,rs,op,b3,b4,b5,b6,b7,b8,rc⟩ q a u d,xv] w fun e w'=>Qr (tr.uf Z ⟨⟨hi,rs,op,b3,b4,b5,b6,b7,b8,rc⟩,qs,an,au,ad⟩ xs) zv w e w':=by
 obtain⟨zp,rfl⟩:∃p,zv= .pointer p:=by
  rcases hz with⟨-,h⟩|⟨A,z,-,h,-⟩
  ·exact⟨_,h⟩
  ·exact⟨_,h⟩
 obtain⟨w1,hw1⟩:∃X,X=w.alloc (.cells (yG ⟨hi,rs,op,b3,b4,b5,b6,b7,b8,rc⟩ q a u d).toArray 33):=⟨_,rfl⟩;obtain⟨hB1,hs1,hm1⟩:=zC hw1;obtain⟨bm,hbm⟩:∃b,b=w.heap.size:=⟨_,rfl⟩;rw[← hbm]at hm1;obtain⟨M0,hM0⟩:∃M,M=(⟨⟨hi,rs,op,b3,b4,b5,b6,b7,b8,rc⟩,qs,an,au,ad⟩:Msg):=⟨_,rfl⟩;have HG:=qe (show Calls Tryz.prog 51 #[.pointer zp,yZ ⟨hi,rs,op,b3,b4,b5,b6,b7,b8,rc⟩ q a u d,xv] w1 fun e w'=>yP Z M0 (.pointer zp) xs w1 e w' from by
  rw[hM0];exact tgather_any Z (.pointer zp) hi rs op b3 b4 b5 b6 b7 b8 rc qs an au ad hq ha hu hd q a u d xs hxl hrl xv w1 (hz.below hB1) (rq.below hB1) (ra.below hB1) (ru.below hB1) (rd.below hB1) (hx.below hB1))
 rw[← hM0];obtain⟨o0,ho0⟩:∃o,o=tr.uf Z M0 xs:=⟨_,rfl⟩;rw[← ho0];have HO0:=qe ho0;clear ho0;obtain⟨qa,qc,rfl,-⟩:=id rq;obtain⟨aa,ac,rfl,-⟩:=id ra;obtain⟨ua,uc,rfl,-⟩:=id ru;obtain⟨da,dc,rfl,-⟩:=id rd;obtain⟨xa,xc,rfl,-⟩:=id hx;obtain⟨m0,m1,m2,m3,m4,m5,m6,m7,m8,m9,m10,m11,m12,m13⟩:=hm1.facts;have HW1:=qe hw1;have HBM:=qe hbm;have HB1:=qe hB1;have HET:=qe het;clear hw1 hB1 hs1 hm1 hbm hz rq ra ru rd hq ha hu hd hM0 hxl hrl hx het
 go_enter Tryz.func20,Tryz.ntmps20
 go_upto_region 1 with fail;rw[← HW1.out,← HBM.out];go_wp2_with fail;refine HG.out.mono ?_;intro e w2 hp;obtain⟨hB2,hp⟩:=hp;have YL:=qe (HB1.out.trans (hB2.mono HB1.out.size));clear hB2 m0 m1 m2 m3 m4 m5 m6 m7 m8 m9 m10 m11 m12 m13 HG;rcases hp with⟨c,hc,ho,rfl⟩|⟨t,n,s,Zo,x,tl,v,rfl,ho,hl,hwf,hx,hd,hsz,hta⟩
 ·have HOO:=qe (show o0= .err c from HO0.out.trans ho);have HC:=qe hc;clear ho hc;obtain⟨w6,hw6⟩:∃X,X=w2.alloc (.cells #[.int .i64 0] 105):=⟨_,rfl⟩;obtain⟨tb,htb⟩:∃b,b=w2.heap.size:=⟨_,rfl⟩;have hB6:Below w2.heap.size w2 w6:=by rw[hw6];exact(Below.refl _ _).alloc (Nat.le_refl _) _
  have hn6:w6.heap[tb]? =some (.cells #[.int .i64 0] 105 (0,0)):=by rw[hw6,htb];exact qz rfl
  have HB6:=qe (YL.out.trans (hB6.mono YL.out.size));have HAS:=qe (as_hit7 c ⟨tb,0,none⟩ (.int .i64 0) w6 (HET.out.below HB6.out) (by rw[qh hn6];rfl) (qE hn6 0));have HW6:=qe hw6;have HTB:=qe htb;have HN6:=qe hn6;have HBL:=qe YL.out.size;clear hw6 htb hB6 hn6;go_upto_region 5 with fail;rw[← HW6.out,← HTB.out];go_wp2_with fail;refine HAS.out.mono ?_;rintro e w7 ⟨rfl,w8,hB8,rfl⟩;have h8:=(hB8.block tb (yo HN6.out)).trans HN6.out;have c8:(w8.setCell ⟨tb,0,none⟩ (.int .i64 c)).cell? ⟨tb,0,none⟩=some (.int .i64 c):=by rw[qh (qC h8 0 _)];rfl
  have HB9:=qe (((HB6.out).trans (hB8.mono HB6.out.size)).setCell (p:=⟨tb,0,none⟩) (by show w.heap.size≤tb;rw[HTB.out];exact HBL.out) (.int .i64 c));obtain⟨w9,hw9⟩:∃X,X=w8.setCell ⟨tb,0,none⟩ (.int .i64 c):=⟨_,rfl⟩;rw[← hw9]at c8 HB9 ⊢;have HE:=qe (show ∀X,Below w9.heap.size w9 X→Qr o0 (.pointer zp) w (.returned (.tuple #[.pointer none,.int .i64 c])) X from fun X hX=>by
   rw[HOO.out];exact⟨HB9.out.trans (hX.mono HB9.out.size),HC.out,rfl⟩)
  clear hw9 h8 hB8;go_upto_region 6 with fail
  go_region
  all_goals (go_wp2_with fail;go_ret2;first | exact HE.out _ (Below.refl _ _).drew | exact HE.out _ (Below.refl _ _))
 ·obtain⟨o,hoo⟩:∃o,o=tr.Q0 Zo n (x :: tl):=⟨_,rfl⟩;have HO1:=qe (show o0=o from HO0.out.trans (ho.trans hoo.symm));have hT:=ttake_any t (.pointer zp) Zo n s x tl hl hwf hx hd v w2 hsz hta;rw[← hoo]at hT;have HT:=qe hT;clear ho hoo hl hwf hx hd hsz hta hT;go_wp2_with fail;refine HT.out.mono ?_;intro e w3 hp;obtain⟨hB3,r1,r2,rfl,hp⟩:=hp.two;have VH:=qe (YL.out.trans (hB3.mono YL.out.size));clear hB3 HT
  cases o with
  | err c=>
    obtain⟨hc,-,hv⟩:=hp;obtain⟨rfl,rfl⟩:=KZ hv;have HOO:=qe HO1.out;have HC:=qe hc;clear hc hv;obtain⟨w6,hw6⟩:∃X,X=w3.alloc (.cells #[.int .i64 0] 105):=⟨_,rfl⟩;obtain⟨tb,htb⟩:∃b,b=w3.heap.size:=⟨_,rfl⟩;have hB6:Below w3.heap.size w3 w6:=by rw[hw6];exact(Below.refl _ _).alloc (Nat.le_refl _) _
    have hn6:w6.heap[tb]? =some (.cells #[.int .i64 0] 105 (0,0)):=by rw[hw6,htb];exact qz rfl
    have HB6:=qe (VH.out.trans (hB6.mono VH.out.size));have HAS:=qe (as_hit7 c ⟨tb,0,none⟩ (.int .i64 0) w6 (HET.out.below HB6.out) (by rw[qh hn6];rfl) (qE hn6 0));have HW6:=qe hw6;have HTB:=qe htb;have HN6:=qe hn6;have HBL:=qe VH.out.size;clear hw6 htb hB6 hn6;go_upto_region 5 with fail;rw[← HW6.out,← HTB.out];go_wp2_with fail;refine HAS.out.mono ?_;rintro e w7 ⟨rfl,w8,hB8,rfl⟩;have h8:=(hB8.block tb (yo HN6.out)).trans HN6.out;have c8:(w8.setCell ⟨tb,0,none⟩ (.int .i64 c)).cell? ⟨tb,0,none⟩=some (.int .i64 c):=by rw[qh (qC h8 0 _)];rfl
    have HB9:=qe (((HB6.out).trans (hB8.mono HB6.out.size)).setCell (p:=⟨tb,0,none⟩) (by show w.heap.size≤tb;rw[HTB.out];exact HBL.out) (.int .i64 c));obtain⟨w9,hw9⟩:∃X,X=w8.setCell ⟨tb,0,none⟩ (.int .i64 c):=⟨_,rfl⟩;rw[← hw9]at c8 HB9 ⊢;have HE:=qe (show ∀X,Below w9.heap.size w9 X→Qr o0 (.pointer zp) w (.returned (.tuple #[.pointer none,.int .i64 c])) X from fun X hX=>by
     rw[HOO.out];exact⟨HB9.out.trans (hX.mono HB9.out.size),HC.out,rfl⟩)
    clear hw9 h8 hB8;go_upto_region 6 with fail
    go_region
    all_goals (go_wp2_with fail;go_ret2;first | exact HE.out _ (Below.refl _ _).drew | exact HE.out _ (Below.refl _ _))
  | same=>
    obtain⟨-,hv⟩:=hp;obtain⟨rfl,rfl⟩:=KZ hv;have HOO:=qe HO1.out;clear hv;obtain⟨w6,hw6⟩:∃X,X=w3.alloc (.cells #[.int .i64 0] 105):=⟨_,rfl⟩;obtain⟨tb,htb⟩:∃b,b=w3.heap.size:=⟨_,rfl⟩;have hB6:Below w3.heap.size w3 w6:=by rw[hw6];exact(Below.refl _ _).alloc (Nat.le_refl _) _
    have HB6:=qe (VH.out.trans (hB6.mono VH.out.size));have HE:=qe (show Qr o0 (.pointer zp) w (.returned (.tuple #[(.pointer zp),.int .i64 0])) w6 from by
     rw[HOO.out];exact⟨HB6.out,rfl⟩)
    have HW6:=qe hw6;have HTB:=qe htb;clear hw6 htb hB6;go_upto_region 5 with fail;rw[← HW6.out,← HTB.out];go_wp2_with fail;refine(as_nil7 _ w6).mono ?_;rintro e w7 ⟨rfl,hE7⟩;obtain rfl:=hE7.symm;go_wp2_with fail;go_ret2;exact HE.out
  | make ap l=>
    have HOO:=qe HO1.out;obtain⟨-,hp⟩:=hp;rcases hp with⟨hne,top,z,L,hs,hv,hzf⟩|⟨k,c,hne,hc,hv⟩
    ·obtain⟨rfl,rfl⟩:=KZ hv;have HNE:=qe hne;have HS:=qe hs;have HZF:=qe hzf;clear hv hne hs hzf;obtain⟨w6,hw6⟩:∃X,X=w3.alloc (.cells #[.int .i64 0] 105):=⟨_,rfl⟩;obtain⟨tb,htb⟩:∃b,b=w3.heap.size:=⟨_,rfl⟩;have hB6:Below w3.heap.size w3 w6:=by rw[hw6];exact(Below.refl _ _).alloc (Nat.le_refl _) _
     have HB6:=qe (VH.out.trans (hB6.mono VH.out.size));have HE:=qe (show Qr o0 (.pointer zp) w (.returned (.tuple #[(qW z),.int .i64 0])) w6 from by
      rw[HOO.out];exact⟨HB6.out,.inl ⟨HNE.out,_,z,L,HS.out,rfl,HZF.out.kept hB6⟩⟩)
     have HW6:=qe hw6;have HTB:=qe htb;clear hw6 htb hB6;go_upto_region 5 with fail;rw[← HW6.out,← HTB.out];go_wp2_with fail;refine(as_nil7 _ w6).mono ?_;rintro e w7 ⟨rfl,hE7⟩;obtain rfl:=hE7.symm;go_wp2_with fail;go_ret2;exact HE.out
    ·obtain⟨rfl,rfl⟩:=KZ hv;have HNE:=qe hne;have HC:=qe hc;clear hv hne hc;obtain⟨w6,hw6⟩:∃X,X=w3.alloc (.cells #[.int .i64 0] 105):=⟨_,rfl⟩;obtain⟨tb,htb⟩:∃b,b=w3.heap.size:=⟨_,rfl⟩;have hB6:Below w3.heap.size w3 w6:=by rw[hw6];exact(Below.refl _ _).alloc (Nat.le_refl _) _
     have hn6:w6.heap[tb]? =some (.cells #[.int .i64 0] 105 (0,0)):=by rw[hw6,htb];exact qz rfl
     have HB6:=qe (VH.out.trans (hB6.mono VH.out.size));have HAS:=qe (as_hit7 c ⟨tb,0,none⟩ (.int .i64 0) w6 (HET.out.below HB6.out) (by rw[qh hn6];rfl) (qE hn6 0));have HW6:=qe hw6;have HTB:=qe htb;have HN6:=qe hn6;have HBL:=qe VH.out.size;clear hw6 htb hB6 hn6;go_upto_region 5 with fail;rw[← HW6.out,← HTB.out];go_wp2_with fail;refine HAS.out.mono ?_;rintro e w7 ⟨rfl,w8,hB8,rfl⟩;have h8:=(hB8.block tb (yo HN6.out)).trans HN6.out;have c8:(w8.setCell ⟨tb,0,none⟩ (.int .i64 c)).cell? ⟨tb,0,none⟩=some (.int .i64 c):=by rw[qh (qC h8 0 _)];rfl
     have HB9:=qe (((HB6.out).trans (hB8.mono HB6.out.size)).setCell (p:=⟨tb,0,none⟩) (by show w.heap.size≤tb;rw[HTB.out];exact HBL.out) (.int .i64 c));obtain⟨w9,hw9⟩:∃X,X=w8.setCell ⟨tb,0,none⟩ (.int .i64 c):=⟨_,rfl⟩;rw[← hw9]at c8 HB9 ⊢;have HE:=qe (show ∀X,Below w9.heap.size w9 X→Qr o0 (.pointer zp) w (.returned (.tuple #[.pointer none,.int .i64 c])) X from fun X hX=>by
      rw[HOO.out];exact⟨HB9.out.trans (hX.mono HB9.out.size),.inr ⟨k,c,HNE.out,HC.out,rfl⟩⟩)
     clear hw9 h8 hB8;go_upto_region 6 with fail
     go_region
     all_goals (go_wp2_with fail;go_ret2;first | exact HE.out _ (Below.refl _ _).drew | exact HE.out _ (Below.refl _ _))
end Go.Proofs.YtpcmilhjpmlbpaaGreatDoor
