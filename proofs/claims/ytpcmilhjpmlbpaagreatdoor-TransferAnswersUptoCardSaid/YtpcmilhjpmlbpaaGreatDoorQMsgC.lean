import Derived.Test.YtpcmilhjpmlbpaaGreatDoorQDelG
set_option maxRecDepth 100000
set_option maxHeartbeats 16000000
namespace Go.Proofs.YtpcmilhjpmlbpaaGreatDoor
open Go.RowKit Go.Shelf nm od
def YR (w:World)(base:Nat)(v:Value)(n:Nat):Prop:=∃xs,w.ownsRow base 78 3 v n xs
theorem YR.three {w:World}{base g n cap:Nat}(h:YR w base (.slice (some ⟨g,0,none⟩) n cap) n)(j0 j1 j2:Nat)(u0 u1 u2:Value):
 YR (((w.setCell ⟨g,j0,none⟩ u0).setCell ⟨g,j1,none⟩ u1).setCell ⟨g,j2,none⟩ u2) base (.slice (some ⟨g,0,none⟩) n cap) n∧
 w.grownBy (((w.setCell ⟨g,j0,none⟩ u0).setCell ⟨g,j1,none⟩ u1).setCell ⟨g,j2,none⟩ u2) (some g):=by
 obtain⟨xs,hx⟩:=h;obtain⟨h0,k0⟩:=hx.stored j0 u0;obtain⟨h1,k1⟩:=h0.stored j1 u1;obtain⟨h2,k2⟩:=h1.stored j2 u2;exact⟨⟨_,h2⟩,(k0.trans k1).trans k2⟩
theorem YR.cells {w:World}{base g n cap:Nat}(h:YR w base (.slice (some ⟨g,0,none⟩) n cap) n){j:Nat}(hj:j<n*3):∃u,w.cell? ⟨g,j,none⟩=some u∧w.frozen? ⟨g,j,none⟩=false:=by
 obtain⟨xs,hx⟩:=h;have h1:=hx.cellAt j hj;rw[List.getElem?_eq_getElem (by rw[hx.1];exact hj)]at h1;exact⟨_,h1,hx.frozenAt j⟩
structure Loose (base:Nat)(w:World)(q a u d:Value)(nq:Nat)(an au ad:List Rec):Prop where
 qs:YR w base q nq
 ra:w.ownsRow base 80 5 a an.length (qp an)
 ru:w.ownsRow base 80 5 u au.length (qp au)
 rd:w.ownsRow base 80 5 d ad.length (qp ad)
 qa:∀g,q.ownBlock=some g→a.ownBlock≠some g
 qu:∀g,q.ownBlock=some g→u.ownBlock≠some g
 qd:∀g,q.ownBlock=some g→d.ownBlock≠some g
 au_:∀g,a.ownBlock=some g→u.ownBlock≠some g
 ad_:∀g,a.ownBlock=some g→d.ownBlock≠some g
 ud:∀g,u.ownBlock=some g→d.ownBlock≠some g
 ZC:base≤w.heap.size
namespace mk
def vs (a u d:Value)(j:Nat):Value:=match j with | 0=>a | 1=>u | _=>d
def ls (an au ad:List Rec)(j:Nat):List Rec:=match j with | 0=>an | 1=>au | _=>ad
end mk
theorem YR.keep {w w':World}{base n:Nat}{v:Value}(h:YR w base v n)(hk:∀b,v.ownBlock=some b→w'.heap[b]? =w.heap[b]?):YR w' base v n:=by
 obtain⟨xs,hx⟩:=h;exact⟨xs,qj hx hk⟩
theorem tri_new {base nq:Nat}{P:Nat→Prop}{w w0 w1:World}{q a u d:Value}{an au ad:List Rec}(h:Loose base w0 q a u d nq an au ad)(hs0:w0.heap.size≤w.heap.size)(hk:∀b,b<w0.heap.size→q.ownBlock≠some b→w.heap[b]? =w0.heap[b]?)
 (e:w1=w.alloc (.cells #[a,u,d] 31)) {mo:Obj} (hm:w.heap[w0.heap.size]? =some mo) (hP:∀b,P b→b<w0.heap.size∧q.ownBlock≠some b∧a.ownBlock≠some b∧u.ownBlock≠some b∧d.ownBlock≠some b):Tri base P w1 w.heap.size w0.heap.size mo (mk.vs a u d) (mk.ls an au ad):=by
 have hb:=h.ZC;have hkeep:∀b,b<w0.heap.size→q.ownBlock≠some b→w1.heap[b]? =w0.heap[b]?:=fun b h1 h2=>by rw[e,Below.heap_alloc _ _ _ (by omega)];exact hk b h1 h2
 have hml:=qA hm;have row:∀{v:Value} {l:List Rec},w0.ownsRow base 80 5 v l.length (qp l)→(∀g,q.ownBlock=some g→v.ownBlock≠some g)→w1.ownsRow base 80 5 v l.length (qp l)∧v.ownBlock≠some w.heap.size∧v.ownBlock≠some w0.heap.size:=fun hr hq=>
  ⟨qj hr fun b hb=>hkeep b (hr.lt b hb).2 (fun e2=>hq b e2 hb),fun e2=>by have:=(hr.lt _ e2).2;omega,fun e2=>by have:=(hr.lt _ e2).2;omega⟩
 obtain⟨r0,o0,z0⟩:=row h.ra h.qa;obtain⟨r1,o1,z1⟩:=row h.ru h.qu;obtain⟨r2,o2,z2⟩:=row h.rd h.qd;refine⟨by rw[e];exact zg hm _,by omega,h.ZC,three (P:=fun j=>(mk.vs a u d j).ownBlock≠some w0.heap.size) z0 z1 z2,by rw[e];exact qz rfl,by omega,?_,?_,?_,three (P:=fun j=>∀b,(mk.vs a u d j).ownBlock=some b→¬P b) (fun b hb hp=>(hP b hp).2.2.1 hb) (fun b hb hp=>(hP b hp).2.2.2.1 hb) (fun b hb hp=>(hP b hp).2.2.2.2 hb),fun b hp=>⟨(hP b hp).1,by have:=(hP b hp).1;omega⟩⟩
 ·exact three (P:=fun j=>w1.ownsRow base 80 5 (mk.vs a u d j) (mk.ls an au ad j).length (qp (mk.ls an au ad j))) r0 r1 r2
 ·intro i j g hi hj hne
  match i,j,hi,hj with
  | 0,0,_,_=>exact absurd rfl hne
  | 1,1,_,_=>exact absurd rfl hne
  | 2,2,_,_=>exact absurd rfl hne
  | 0,1,_,_=>exact h.au_ g
  | 0,2,_,_=>exact h.ad_ g
  | 1,2,_,_=>exact h.ud g
  | 1,0,_,_=>exact fun h1 h2=>h.au_ g h2 h1
  | 2,0,_,_=>exact fun h1 h2=>h.ad_ g h2 h1
  | 2,1,_,_=>exact fun h1 h2=>h.ud g h2 h1
 ·exact three (P:=fun j=>(mk.vs a u d j).ownBlock≠some w.heap.size) o0 o1 o2
theorem mk.len3 (an au ad:List Rec){m:Nat}(h0:an.length≤m)(h1:au.length≤m)(h2:ad.length≤m):∀j,j<3→(mk.ls an au ad j).length≤m:=three (P:=fun j=>(mk.ls an au ad j).length≤m) h0 h1 h2
def jh (base:Nat)(P:Nat→Prop)(w w':World):Prop:=Below base w w'∧∀b,P b→w'.heap[b]? =w.heap[b]?
section
variable {base:Nat}{P:Nat→Prop}{w wr w':World}
theorem jh.size (h:jh base P w wr):w.heap.size≤wr.heap.size:=h.1.size
theorem jh.alloc (h:jh base P w wr)(hb:base≤wr.heap.size)(hP:∀b,P b→b<wr.heap.size)(o:Obj):jh base P w (wr.alloc o):=
 ⟨h.1.alloc hb o,fun b hp=>(Below.heap_alloc wr o b (hP b hp)).trans (h.2 b hp)⟩
theorem jh.grown {r:Option Nat}(h:jh base P w wr)(hg:wr.grownBy w' r)(hb:base≤wr.heap.size)(hr:∀k,r=some k→base≤k)(hP:∀b,P b→b<wr.heap.size∧r≠some b):jh base P w w':=
 ⟨h.1.grown hg hb hr,fun b hp=>(hg.block b (hP b hp).1 (fun e=>(hP b hp).2 e.symm)).trans (h.2 b hp)⟩
theorem jh.setCell {p:Addr}(h:jh base P w wr)(hb:base≤p.block)(hP:∀b,P b→b≠p.block)(v:Value):jh base P w (wr.setCell p v):=
 ⟨h.1.setCell hb v,fun b hp=>(Below.heap_setCell _ _ _ _ (hP b hp)).trans (h.2 b hp)⟩
theorem jh.trans_ (h:jh base P w wr)(h2:Below wr.heap.size wr w')(hb:base≤wr.heap.size)(hP:∀b,P b→b<wr.heap.size):jh base P w w':=
 ⟨h.1.trans (h2.mono hb),fun b hp=>(h2.block b (hP b hp)).trans (h.2 b hp)⟩
end
theorem Vm (base:Nat)(P:Nat→Prop)(h:Hd)(q a u d:Value)(nq:Nat)(an au ad:List Rec)(hq:nq≤1000000000000)(h0:an.length≤1000000000000)(h1:au.length≤1000000000000)(h2:ad.length≤1000000000000)(w:World)(hl:Loose base w q a u d nq an au ad)(hP:∀b,P b→b<w.heap.size∧q.ownBlock≠some b∧a.ownBlock≠some b∧u.ownBlock≠some b∧d.ownBlock≠some b):
 Calls Tryz.prog 15 #[yZ h q a u d] w fun e w'=>e= .returned (.bool true)∧jh base P w w':=by
 have HP:=qe hP;clear hP;have hlen:=mk.len3 an au ad h0 h1 h2;obtain⟨xq,hxq⟩:=id hl.qs;obtain⟨aq,cq,rfl,hcq⟩:=qi hxq;obtain⟨aa,ca,rfl,-⟩:=qi hl.ra;obtain⟨bu,cu,rfl,-⟩:=qi hl.ru;obtain⟨bd,cd,rfl,-⟩:=qi hl.rd;obtain⟨w1,hw1⟩:∃X,X=w.alloc (.cells (yG h (.slice aq nq cq) (.slice aa an.length ca) (.slice bu au.length cu) (.slice bd ad.length cd)).toArray 33):=⟨_,rfl⟩;obtain⟨hB1,hs1,hm1⟩:=zC hw1;have hbase:=hl.ZC;have hmq:YR w1 base (.slice aq nq cq) nq:=hl.qs.keep fun b hb=>hB1.block b (hxq.lt b hb).2;have hqlt:∀b,(Value.slice aq nq cq).ownBlock=some b→base≤b∧b<w.heap.size:=hxq.lt;obtain⟨x0,x1,x2,x3,x4,x5,x6,x7,x8,x9,x10,x11,x12,x13⟩:=hm1.facts;have HB1:=qe (hB1.mono hbase);have HB1F:=qe hB1;clear hxq hB1;have HW1:=qe hw1;have HM1:=qe hm1;have HL:=qe hl;have HMQ:=qe hmq;have HQLT:=qe hqlt;have HLEN:=qe hlen;have HS1:=qe hs1;clear hw1 hm1 hl hmq hqlt hlen hs1;obtain⟨ZN,Za,Zh,uC,uO⟩:=info_parts jM;have HI_R:=qe Za;have HZ_R:=qe Zh;have HZ1_R:=qe uC;have HZ2_R:=qe uO;clear Za Zh uC uO
 go_enter Tryz.func15,Tryz.ntmps15
 go_upto_region 1 with fail;rw[← HW1.out];go_wp2_with fail;clear x0 x1 x2 x3 x4 x5 x6 x7 x8 x9 x10 x11 x12 x13
 go_loopw [16,3] (fun kv _ wr=>∃k:Nat,k≤nq∧kv= .int .i64 (k:Int)∧YR wr base (.slice aq nq cq) nq∧w1.grownBy wr (Value.slice aq nq cq).ownBlock) (fun kv _ _=>nq-(intOf kv).toNat)
 case atStart=>exact⟨0,Nat.zero_le _,rfl,HMQ.out,⟨rfl,rfl,rfl,Nat.le_refl _,fun _ _ _=>rfl⟩⟩
 case round=>
  obtain⟨k,hk,rfl,hwr,hg⟩:=hrel;have hmb:qy wr w.heap.size h (.slice aq nq cq) (.slice aa an.length ca) (.slice bu au.length cu) (.slice bd ad.length cd):=(hg.block _ HM1.out.lt (fun e=>by have:=(HQLT.out _ e.symm).2;omega)).trans HM1.out;obtain⟨_,_,_,_,_,_,_,_,_,_,y10,y11,y12,y13⟩:=hmb.facts;by_cases hlt:k<nq
  ·obtain⟨xs,hx⟩:=id hwr;obtain⟨g,cap',hv,_,_⟩:=hx.form (by omega);simp only[Value.slice.injEq,true_and]at hv;obtain⟨rfl,rfl⟩:=hv;obtain⟨u0,c0,f0⟩:=hwr.cells (j:=k*3) (by omega);obtain⟨u1,c1,f1⟩:=hwr.cells (j:=k*3+1) (by omega);obtain⟨u2,c2,f2⟩:=hwr.cells (j:=k*3+2) (by omega);have h3:=hwr.three (k*3) (k*3+1) (k*3+2) (.string ⟨#[109,97,114,107]⟩) (.int .i64 (-(k:Int)-1)) (.int .i64 0);clear hx hmb y11 y12 y13;have HWR:=qe hwr;have HG:=qe hg;have H3:=qe h3;clear hwr hg h3;go_wp2_with fail
   go_roundw
   case rel=>exact⟨k+1,by omega,by go_num,H3.out.1,HG.out.trans H3.out.2⟩
   case measure=>simp[intOf];omega
  ·obtain rfl:nq=k:=by omega
   obtain⟨wo,hwo⟩:∃wo:World,wo=wr:=⟨_,rfl⟩;subst hwo;obtain⟨w2,hw2⟩:∃X,X=wo.alloc (.cells #[.slice aa an.length ca,.slice bu au.length cu,.slice bd ad.length cd] 31):=⟨_,rfl⟩;have htri:=tri_new (P:=P) HL.out (w:=wo) (w1:=w2) (by have:=hg.size;have:=HS1.out;omega) (fun b hb hne=>(hg.block b (by have:=HS1.out;omega) (fun e=>hne e.symm)).trans (HB1F.out.block b hb)) hw2 hmb HP.out;have hB2:jh base P w w2:=by
    rw[hw2];have hs2:=hg.size;have hs3:=HS1.out;exact(jh.grown (⟨HB1.out,fun b hp=>HB1F.out.block b (HP.out b hp).1⟩:jh base P w w1) hg (by omega) (fun j hj=>(HQLT.out j hj).1) (fun b hp=>⟨by have:=(HP.out b hp).1;omega,(HP.out b hp).2.1⟩)).alloc (by omega) (fun b hp=>by have:=(HP.out b hp).1;omega) _
   obtain⟨lb,hlb⟩:∃n,n=wo.heap.size:=⟨_,rfl⟩;obtain⟨mb,hmbn⟩:∃n,n=w.heap.size:=⟨_,rfl⟩;rw[← hlb,← hmbn]at htri;have HHB:=qe hbase;clear hlt hwr hg hmb hbase;have HTRI:=qe htri;have HB2:=qe hB2;have HW2:=qe hw2;have HLB:=qe hlb;have HMBN:=qe hmbn;clear htri hB2 hw2 hlb hmbn;go_upto_region 7 with fail;rw[← HW2.out,← HLB.out];clear y10 y11 y12 y13;obtain⟨L,hL⟩:∃L,L=mk.ls an au ad:=⟨_,rfl⟩;obtain⟨V0,hV0⟩:∃V,V=mk.vs (.slice aa an.length ca) (.slice bu au.length cu) (.slice bd ad.length cd):=⟨_,rfl⟩;have ht0:=HTRI.out;rw[← hL,← hV0]at ht0;rw[← mk.stB_zero L]at ht0;have hlen3:=HLEN.out;rw[← hL]at hlen3;have hln0:an.length=(L 0).length:=by rw[hL];rfl
   have hln1:au.length=(L 1).length:=by rw[hL];rfl
   have hln2:ad.length=(L 2).length:=by rw[hL];rfl
   obtain⟨mo,hmo⟩:∃o,o=Obj.cells (yG h (.slice aq nq cq) (.slice aa an.length ca) (.slice bu au.length cu) (.slice bd ad.length cd)).toArray 33 (0,0):=⟨_,rfl⟩;rw[← hmo]at ht0;clear HTRI;have HT0:=qe ht0;have HLEN3:=qe hlen3;have HL:=qe hL;have HV0:=qe hV0;have HLN0:=qe hln0;have HLN1:=qe hln1;have HLN2:=qe hln2;have HMO:=qe hmo;clear ht0 hlen3 hL hV0 hln0 hln1 hln2 hmo;obtain⟨wo2,hwo2⟩:∃X:World,X=w2:=⟨_,rfl⟩;go_wp2_with fail
   go_loopw [37,5,6] (fun kv _ _ wr=>∃j:Nat,(j:Int)≤3∧kv= .int .i64 (j:Int)∧Tri base P wr lb mb mo V0 (mk.stB L j 0)∧jh base P w wr) (fun kv _ _ _=>3-(intOf kv).toNat)
   case atStart=>exact⟨0,by simp,rfl,HT0.out,HB2.out⟩
   case round=>
    obtain⟨j,hj,rfl,ht,hB⟩:=hrel;by_cases hlt:(j:Int)<3
    ·have hj3:j<3:=by omega
     have hj0:(0:Int)≤(j:Int):=by omega
     obtain⟨l0,f0⟩:=ht.cell hj3;obtain⟨aj,cj,hvj,-⟩:=qi (ht.row j hj3);rw[mk.stB_len L j 0 j (Nat.zero_le _)]at hvj;obtain⟨n,hn⟩:∃n,n=(L j).length:=⟨_,rfl⟩;rw[← hn]at hvj;have hnb:n≤1000000000000:=by rw[hn];exact HLEN3.out j hj3
     rw[hvj]at l0;obtain⟨wi,hwi⟩:∃X:World,X=wr:=⟨_,rfl⟩;subst hwi;have HVJ:=qe hvj;have HN:=qe hn;have HJ3:=qe hj3;have HT:=qe ht;have HB:=qe hB;clear hvj hn hj3 ht hB;go_wp2_with fail;clear l0 f0
     go_loopw [45,6] (fun kv _ wr=>∃k:Nat,k≤n∧kv= .int .i64 (k:Int)∧Tri base P wr lb mb mo V0 (mk.stB L j k)∧jh base P w wr) (fun kv _ _=>n-(intOf kv).toNat)
     case atStart=>exact⟨0,Nat.zero_le _,rfl,HT.out,HB.out⟩
     case round=>
      obtain⟨k,hk,rfl,ht2,hB2'⟩:=hrel;by_cases hlt2:k<n
      ·have hlk:(mk.stB L j k j).length=n:=(mk.stB_len L j k j (by rw[← HN.out];exact hk)).trans HN.out.symm;obtain⟨l0,f0⟩:=ht2.cell HJ3.out;rw[HVJ.out]at l0;have hrow:=ht2.row j HJ3.out;rw[HVJ.out,hlk]at hrow;obtain⟨g,cap',hv,_,hgb⟩:=hrow.form (by omega);simp only[Value.slice.injEq,true_and]at hv;obtain⟨rfl,rfl⟩:=hv;obtain⟨u0,c0,g0⟩:=ht2.five HJ3.out HVJ.out (i:=k*5) (by omega);obtain⟨u1,c1,g1⟩:=ht2.five HJ3.out HVJ.out (i:=k*5+1) (by omega);obtain⟨u2,c2,g2⟩:=ht2.five HJ3.out HVJ.out (i:=k*5+2) (by omega);obtain⟨u3,c3,g3⟩:=ht2.five HJ3.out HVJ.out (i:=k*5+3) (by omega);obtain⟨u4,c4,g4⟩:=ht2.five HJ3.out HVJ.out (i:=k*5+4) (by omega);have hput:=ht2.put HJ3.out (k:=k) (by rw[hlk];exact hlt2) HVJ.out (mk.markR j k);rw[mk.stB_set L j k (by rw[← HN.out];exact hlt2)]at hput;have hgb2:base≤g:=(hrow.lt g rfl).1;have hnp:=ht2.np j HJ3.out g (by rw[HVJ.out];rfl);have hB3:=hB2'.grown hput.2 (Nat.le_trans HHB.out hB2'.size) (fun i hi=>by simp only[Option.some.injEq]at hi;omega) (fun b hp=>⟨Nat.lt_of_lt_of_le (HP.out b hp).1 hB2'.size,fun e=>by simp only[Option.some.injEq]at e;exact hnp (e ▸ hp)⟩);clear hnp;clear hlk hrow;have HT2:=qe ht2;have HB2':=qe hB2';have HPUT:=qe hput;have HB3:=qe hB3;have HGB2:=qe hgb2;clear ht2 hB2' hput hB3 hgb2;go_wp2_with fail
       go_roundw
       case rel=>exact⟨k+1,by omega,by go_num,HPUT.out.1,HB3.out⟩
       case measure=>simp[intOf];omega
      ·obtain rfl:n=k:=by omega
       have ht3:Tri base P wr lb mb mo V0 (mk.stB L (j+1) 0):=by rw[← mk.stB_next,← HN.out];exact ht2
       have HT2:=qe ht2;have HT3:=qe ht3;have HB2':=qe hB2';clear ht2 ht3 hB2';go_wp2_with fail
       go_roundw
       case rel=>exact⟨j+1,by omega,by go_num,HT3.out,HB2'.out⟩
       case measure=>simp[intOf];omega
    ·obtain rfl:3=j:=by omega
     have ht3:Tri base P wr lb mb mo V0 (mk.stC L 0 0):=ht.congr (mk.stC_zero L);obtain⟨wo3,hwo3⟩:∃wo:World,wo=wr:=⟨_,rfl⟩;subst hwo3;clear hlt hj;have HT:=qe ht;have HT3:=qe ht3;have HB:=qe hB;clear ht ht3 hB;go_wp2_with fail
     go_loopw [64,7,8] (fun kv _ _ wr=>∃j:Nat,(j:Int)≤3∧kv= .int .i64 (j:Int)∧(∃V,Tri base P wr lb mb mo V (mk.stC L j 0))∧jh base P w wr) (fun kv _ _ _=>3-(intOf kv).toNat)
     case atStart=>exact⟨0,by simp,rfl,⟨V0,HT3.out⟩,HB.out⟩
     case round=>
      obtain⟨j,hj,rfl,⟨V,ht⟩,hB⟩:=hrel;by_cases hlt:(j:Int)<3
      ·have hj3:j<3:=by omega
       have hj0:(0:Int)≤(j:Int):=by omega
       obtain⟨wi,hwi⟩:∃X:World,X=wr:=⟨_,rfl⟩;subst hwi;obtain⟨n,hn⟩:∃n,n=(L j).length:=⟨_,rfl⟩;have hnb:n≤1000000000000:=by rw[hn];exact HLEN3.out j hj3
       have HT:=qe ht;have HB:=qe hB;have HJ3:=qe hj3;have HN:=qe hn;clear ht hB hj3 hn;go_wp2_with fail
       go_loopw [8] (fun kv wr=>∃k:Nat,(k:Int)≤9∧kv= .int .i64 (k:Int)∧(∃V,Tri base P wr lb mb mo V (mk.stC L j k))∧jh base P w wr) (fun kv _=>9-(intOf kv).toNat)
       case atStart=>exact⟨0,by simp,rfl,⟨V,HT.out⟩,HB.out⟩
       case round=>
        obtain⟨k,hk,rfl,⟨V',ht2⟩,hB2'⟩:=hrel;clear HB;by_cases hlt2:(k:Int)<9
        ·have hk0:(0:Int)≤(k:Int):=by omega
         obtain⟨l0,f0⟩:=ht2.cell HJ3.out;have hlk:(mk.stC L j k j).length=n+k:=by rw[mk.stC_len,HN.out]
         obtain⟨m,hm⟩:∃m,m=n+k:=⟨_,rfl⟩;rw[← hm]at hlk;have hmb:m≤1000000000009:=by omega
         have hrow:=ht2.row j HJ3.out;rw[hlk]at hrow;obtain⟨aj,cj,hvj,-⟩:=qi hrow;have hoj:=ht2.off_ j HJ3.out;have hlb:=ht2.lt;have hbr:base≤wr.heap.size:=Nat.le_trans HHB.out hB2'.size;obtain⟨wa,hwa⟩:∃X,X=wr.alloc (.cells (recC (mk.xh j k)).toArray 80):=⟨_,rfl⟩;have hsa:wa.heap.size=wr.heap.size+1:=by rw[hwa];simp
         have HLT:=qe (fun b hb=>(hrow.lt b hb).1);have kK:=qe (qj hrow fun b hb=>Below.heap_alloc wr (.cells (recC (mk.xh j k)).toArray 80) b (hrow.lt b hb).2);have xC:=qe (show m+1≤maxLen from by unfold maxLen;omega);have xB:=qe (show(m+1)*56≤140737488355328 from by omega);have kJ:=qe (show base≤(wr.alloc (.cells (recC (mk.xh j k)).toArray 80)).heap.size from by simp;omega);have jD:=qe (j3 wr (recC (mk.xh j k)) 80);have HLW:=qe (show lb<(wr.alloc (.cells (recC (mk.xh j k)).toArray 80)).heap.size from by simp;omega);have HBA:=qe (hB2'.alloc hbr (fun b hp=>Nat.lt_of_lt_of_le (HP.out b hp).1 hB2'.size) (.cells (recC (mk.xh j k)).toArray 80));have hblk:=ht2.blk;rw[hvj]at l0;rw[hvj]at kK;clear hrow;have HT2:=qe ht2;have HB2':=qe hB2';have HM:=qe hm;have HLK:=qe hlk;have HVJ:=qe hvj;have HWA:=qe hwa;have HSA:=qe hsa;have HBLK:=qe hblk;have HOJ:=qe hoj;have HLB:=qe hlb;have HBR:=qe hbr;clear ht2 hB2' hm hlk hvj hwa hsa hblk hoj hlb hbr;go_wp2_with (at_builtin;refine qJ _ rfl _ _ 31 rfl base 80 ZN (.agg #[.string ⟨#[]⟩,.int .i64 0,.int .i64 0,.int .i64 0,.string ⟨#[]⟩]) 5 56 Tryz.underlying31 HI_R.out HZ_R.out HZ1_R.out HZ2_R.out rfl (by decide) _ _ _ rfl kK.out ⟨wr.heap.size,0,none⟩ 1 1 (recC (mk.xh j k)) rfl rfl jD.out (by simp[Value.oneCell']) xC.out xB.out kJ.out ?_);intro v' w10 zi yI yX;obtain⟨g',cap',rfl,_,_⟩:=zi.form (by omega);clear l0 f0;have Vw:w10.heap[lb]? =some (.cells #[V' 0,V' 1,V' 2] 31 (0,0)):=(yI.block lb HLW.out (fun e=>HOJ.out (by rw[HVJ.out];exact e.symm))).trans (zg HBLK.out _);have l1:w10.cell? ⟨lb,j,none⟩=some (V' j):=by rw[qh Vw];exact three (P:=fun j=>(#[V' 0,V' 1,V' 2]:Array Value)[j]? =some (V' j)) rfl rfl rfl j HJ3.out
         rw[HVJ.out]at l1;have f1:w10.frozen? ⟨lb,j,none⟩=false:=qE Vw j;have Zb:jh base P w w10:=HBA.out.grown yI kJ.out (fun i hi=>HLT.out i (by rw[HVJ.out];exact hi)) (fun b hp=>⟨Nat.lt_of_lt_of_le (HP.out b hp).1 HBA.out.size,fun e=>HT2.out.np j HJ3.out b (by rw[HVJ.out];exact e) hp⟩);have hgr:=HT2.out.grow (w1:=wa) HWA.out HJ3.out HLK.out.symm (mk.xh j k) _ zi (by rw[HVJ.out,HWA.out];exact yI) (fun b hb=>by rw[HVJ.out];exact(yX b hb).imp id (fun h=>by rw[HSA.out];exact h));rw[mk.stC_app]at hgr;have Yk:=Zb.setCell (p:=⟨lb,j,none⟩) HT2.out.from_ (fun b hp=>Nat.ne_of_lt (HT2.out.plt b hp).2) (.slice (some ⟨g',0,none⟩) (m+1) cap');clear Vw Zb HBA kK xC xB kJ jD HLT;have zJ:=qe zi;have YK:=qe yI;have xN:=qe yX;have HGR:=qe hgr;have HB11:=qe Yk;clear zi yI yX hgr Yk;go_wp2_with fail
         go_roundw
         case rel=>(repeat apply Exists.intro);exact⟨⟨k+1,by omega,by go_num,⟨_,HGR.out⟩,HB11.out⟩,rfl⟩
         case measure=>simp[intOf];omega
        ·obtain rfl:9=k:=by omega
         have ht3:Tri base P wr lb mb mo V' (mk.stC L (j+1) 0):=by rw[← mk.stC_next];exact ht2
         clear hlt2 hk;have HT2:=qe ht2;have HT3:=qe ht3;have HB2':=qe hB2';clear ht2 ht3 hB2';go_wp2_with fail
         go_roundw
         case rel=>exact⟨j+1,by omega,by go_num,⟨V',HT3.out⟩,HB2'.out⟩
         case measure=>simp[intOf];omega
      ·obtain rfl:3=j:=by omega
       clear hlt hj;have ht3:=ht.congr (mk.stC_end L);obtain⟨wo4,hwo4⟩:∃wo:World,wo=wr:=⟨_,rfl⟩;subst hwo4;obtain⟨_,_,_,_,_,_,_,_,_,_,y10,y11,y12,y13⟩:=qy.facts (w:=wo4) (b:=mb) (by have:=ht.mem;rw[HMO.out]at this;exact this);have hbr:base≤wo4.heap.size:=Nat.le_trans HHB.out hB.size;obtain⟨w3,hw3⟩:∃X,X=wo4.alloc (.cells #[.int .i64 (an.length:Int),.int .i64 (au.length:Int),.int .i64 (ad.length:Int)] 3):=⟨_,rfl⟩;have hB3:jh base P w w3:=by rw[hw3];exact hB.alloc hbr (fun b hp=>Nat.lt_of_lt_of_le (HP.out b hp).1 hB.size) _
       have ht4:Tri base P w3 lb mb mo V (fun i=>mk.marks i (L i).length ++ mk.uD i 9):=by rw[hw3];exact ht3.below ((Below.refl _ _).alloc (Nat.le_refl _) _)
       have hnbk:w3.heap[wo4.heap.size]? =some (.cells #[.int .i64 (an.length:Int),.int .i64 (au.length:Int),.int .i64 (ad.length:Int)] 3 (0,0)):=by rw[hw3];exact qz rfl
       obtain⟨nb,hnb⟩:∃n,n=wo4.heap.size:=⟨_,rfl⟩;rw[← hnb]at hnbk;have hnl:=qA hnbk;have hnc:∀j,j<3→w3.cell? ⟨nb,j,none⟩=some (.int .i64 ((L j).length:Int)):=fun j hj=>by
        rw[qh hnbk];refine three (P:=fun j=>(#[.int .i64 (an.length:Int),.int .i64 (au.length:Int),.int .i64 (ad.length:Int)]:Array Value)[j]? =some (.int .i64 ((L j).length:Int))) ?_ ?_ ?_ j hj
        ·rw[← HLN0.out];rfl
        ·rw[← HLN1.out];rfl
        ·rw[← HLN2.out];rfl
       have hmn:mb=w.heap.size:=HMBN.out;rw[hmn]at y10 y11 y12 y13;clear ht ht3 hbr hnbk hmn;have HW3:=qe hw3;have HB3:=qe hB3;have HT4:=qe ht4;have HB:=qe hB;have HNB:=qe hnb;have HNC:=qe hnc;clear hw3 hB3 ht4 hB hnb hnc;go_upto_region 25 with fail;rw[← HW3.out,← HNB.out];clear y10 y11 y12 y13;go_wp2_with fail
       go_loopw [99,10,11,12] (fun kv _ _ _ wr=>∃j:Nat,(j:Int)≤3∧kv= .int .i64 (j:Int)∧Below w3.heap.size w3 wr) (fun kv _ _ _ _=>3-(intOf kv).toNat)
       case atStart=>exact⟨0,by simp,rfl,Below.refl _ _⟩
       case round=>
        obtain⟨j,hj,rfl,hB⟩:=hrel;by_cases hlt:(j:Int)<3
        ·have hj3:j<3:=by omega
         have hj0:(0:Int)≤(j:Int):=by omega
         obtain⟨wi,hwi⟩:∃X:World,X=wr:=⟨_,rfl⟩;subst hwi;obtain⟨n,hn⟩:∃n,n=(L j).length:=⟨_,rfl⟩;have hnb:n≤1000000000000:=by rw[hn];exact HLEN3.out j hj3
         have hrow:=HT4.out.row j hj3;obtain⟨aj,cj,hvj,-⟩:=qi hrow;rw[List.length_append,mk.kU,mk.KO,← hn]at hvj;obtain⟨l0,f0⟩:=(HT4.out.below hB).cell hj3;rw[hvj]at l0;clear hrow;have HB:=qe hB;have HJ3:=qe hj3;have HN:=qe hn;have HVJ:=qe hvj;clear hB hj3 hn hvj;go_wp2_with fail;clear l0 f0
         go_loopw [107,11,12] (fun kv _ _ wr=>∃k:Nat,k≤n+9∧kv= .int .i64 (k:Int)∧Below w3.heap.size w3 wr) (fun kv _ _ _=>n+9-(intOf kv).toNat)
         case atStart=>exact⟨0,Nat.zero_le _,by simp,HB.out⟩
         case round=>
          obtain⟨k,hk,rfl,hB2'⟩:=hrel;clear HB;by_cases hlt2:k<n+9
          ·have hki:(k:Int)<(n:Int)+9:=by omega
           have ht5:=HT4.out.below hB2';obtain⟨l0,-⟩:=ht5.cell HJ3.out;have hrec:=ht5.recs HJ3.out;have hfl:k<(mk.marks j (L j).length ++ mk.uD j 9).length:=by rw[List.length_append,mk.kU,mk.KO,← HN.out];exact hlt2
           rw[HVJ.out]at hrec l0;obtain⟨_,_,hv,_,hr⟩:=hrec;simp only[Value.slice.injEq]at hv;obtain⟨rfl,-,rfl⟩:=hv;obtain⟨bb,off,rfl,hbl,hx⟩:=hr k hfl;have n0:=(hB2'.cell (p:=⟨nb,j,none⟩) hnl).trans (HNC.out j HJ3.out);rw[← HN.out]at n0;have n1:(wr.alloc (.cells #[.string ⟨#[109,97,114,107]⟩,.int .i64 (-1000*(j:Int)-(k:Int)-1),.int .i64 0,.int .i64 0,.string ⟨#[]⟩] 80)).cell? ⟨nb,j,none⟩=some (.int .i64 (n:Int)):=qw _ n0;clear hr ht5;by_cases hkn:k<n
           ·have hx2:Qs wr bb (off+k*5) ⟨⟨#[109,97,114,107]⟩,-1000*(j:Int)-(k:Int)-1,0,0,⟨#[]⟩⟩:=by
             have e:=mk.full_mark j (L j).length k (by rw[← HN.out];exact hkn) hfl;have hx3:Qs wr bb (off+k*5) ((mk.marks j (L j).length ++ mk.uD j 9)[k]'hfl):=hx;rw[e]at hx3;exact hx3
            have hge:decide (n≤k)=false:=decide_eq_false (by omega);obtain⟨w4,hw4⟩:∃W,W=wr.alloc (.cells (recC ⟨⟨#[109,97,114,107]⟩,-1000*(j:Int)-(k:Int)-1,0,0,⟨#[]⟩⟩).toArray 80):=⟨_,rfl⟩;obtain⟨hB4,hs4,x0,x1,x2,x3,x4⟩:=qY wr w4 ⟨⟨#[109,97,114,107]⟩,-1000*(j:Int)-(k:Int)-1,0,0,⟨#[]⟩⟩ hw4;obtain⟨c0,c1,c2,c3,c4⟩:=hx2.keep (hB4.block bb hbl);have m0:=(hB4.cell (p:=⟨lb,j,none⟩) (World.block_lt_of_cell? _ _ l0)).trans l0
            dsimp only at c0 c1 c2 c3 c4 x0 x1 x2 x3 x4
            have e0:=qf c0;have e1:=qf c1;have e2:=qf c2;have e3:=qf c3;have e4:=qf c4;have f0:=qf x0;have f1:=qf x1;have f2:=qf x2;have f3:=qf x3;have f4:=qf x4;have g0:=qf m0;have HBI:=qe (hB2'.trans (hB4.mono hB2'.size));clear c0 c1 c2 c3 c4 x0 x1 x2 x3 x4 hx hx2 hkn hB4 m0;have HW4:=qe hw4;have HS4:=qe hs4;have HB2':=qe hB2';clear hw4 hs4 hB2';go_upto_region 34 with fail;rw[← HW4.out];clear l0 n0 n1;refine ql (by kernel_rfl) (by kernel_rfl) ?_
            repeat (with_reducible refine wpQuiet_step (fun K hK=>?_);go_simp;first | (with_reducible refine hK _ ?_;clear hK K))
            refine wpQuiet_nil ?_;intro W hW;have hBW:Below w4.heap.size w4 W:=by obtain⟨p,rfl⟩:=hW;exact qB _ p
            have HBW:=qe (HBI.out.trans (hBW.mono HBI.out.size));clear hW hBW e0 e1 e2 e3 e4 f0 f1 f2 f3 f4 g0;go_wp2_with fail
            go_roundw
            case rel=>first | exact⟨k+1,by omega,by go_num,HBW.out⟩| ((repeat apply Exists.intro);exact⟨⟨k+1,by omega,by go_num,HBW.out⟩,rfl⟩)
            case measure=>simp[intOf];omega
           ·have hx2:Qs wr bb (off+k*5) ⟨⟨#[103,114,111,119,110]⟩,-1000*(j:Int)-500-((k:Int)-(n:Int)),0,0,⟨#[]⟩⟩:=by
             have e:=mk.full_grown j (L j).length k (by rw[← HN.out];omega) hfl;have hx3:Qs wr bb (off+k*5) ((mk.marks j (L j).length ++ mk.uD j 9)[k]'hfl):=hx;rw[e,← HN.out]at hx3;have e2:mk.xh j (k-n)=⟨⟨#[103,114,111,119,110]⟩,-1000*(j:Int)-500-((k:Int)-(n:Int)),0,0,⟨#[]⟩⟩:=by
              unfold mk.xh;rw[Int.ofNat_sub (by omega)]
             rw[e2]at hx3;exact hx3
            have hge:decide (n≤k)=true:=decide_eq_true (by omega);have hkn0:(n:Int)≤(k:Int):=by omega
            obtain⟨w4,hw4⟩:∃W,W=wr.alloc (.cells (recC ⟨⟨#[103,114,111,119,110]⟩,-1000*(j:Int)-500-((k:Int)-(n:Int)),0,0,⟨#[]⟩⟩).toArray 80):=⟨_,rfl⟩;obtain⟨hB4,hs4,x0,x1,x2,x3,x4⟩:=qY wr w4 ⟨⟨#[103,114,111,119,110]⟩,-1000*(j:Int)-500-((k:Int)-(n:Int)),0,0,⟨#[]⟩⟩ hw4;obtain⟨c0,c1,c2,c3,c4⟩:=hx2.keep (hB4.block bb hbl);have m0:=(hB4.cell (p:=⟨lb,j,none⟩) (World.block_lt_of_cell? _ _ l0)).trans l0
            dsimp only at c0 c1 c2 c3 c4 x0 x1 x2 x3 x4
            have e0:=qf c0;have e1:=qf c1;have e2:=qf c2;have e3:=qf c3;have e4:=qf c4;have f0:=qf x0;have f1:=qf x1;have f2:=qf x2;have f3:=qf x3;have f4:=qf x4;have g0:=qf m0;have HBI:=qe (hB2'.trans (hB4.mono hB2'.size));clear c0 c1 c2 c3 c4 x0 x1 x2 x3 x4 hx hx2 hkn hB4 m0;have HW4:=qe hw4;have HS4:=qe hs4;have HB2':=qe hB2';clear hw4 hs4 hB2';go_upto_region 34 with fail;rw[← HW4.out];clear l0 n0 n1;refine ql (by kernel_rfl) (by kernel_rfl) ?_
            repeat (with_reducible refine wpQuiet_step (fun K hK=>?_);go_simp;first | (with_reducible refine hK _ ?_;clear hK K))
            refine wpQuiet_nil ?_;intro W hW;have hBW:Below w4.heap.size w4 W:=by obtain⟨p,rfl⟩:=hW;exact qB _ p
            have HBW:=qe (HBI.out.trans (hBW.mono HBI.out.size));clear hW hBW e0 e1 e2 e3 e4 f0 f1 f2 f3 f4 g0;go_wp2_with fail
            go_roundw
            case rel=>first | exact⟨k+1,by omega,by go_num,HBW.out⟩| ((repeat apply Exists.intro);exact⟨⟨k+1,by omega,by go_num,HBW.out⟩,rfl⟩)
            case measure=>simp[intOf];omega
          ·obtain rfl:n+9=k:=by omega
           have HB2':=qe hB2';clear hB2';clear hlt2 hk;go_wp2_with fail
           go_roundw
           case rel=>exact⟨j+1,by omega,by go_num,HB2'.out⟩
           case measure=>simp[intOf];omega
        ·obtain rfl:3=j:=by omega
         clear hlt hj;have hend:=HB3.out.trans_ hB (Nat.le_trans HHB.out HB3.out.size) (fun b hp=>Nat.lt_of_lt_of_le (HP.out b hp).1 HB3.out.size);have HB:=qe hB;have HEND:=qe hend;clear hB hend;go_wp2_with fail;go_ret;exact⟨rfl,HEND.out⟩
end Go.Proofs.YtpcmilhjpmlbpaaGreatDoor
