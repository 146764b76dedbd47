import Derived.Test.YtpcmilhjpmlbpaaGreatDoorQCpB
import Derived.Test.YtpcmilhjpmlbpaaGreatDoorQCpR
import Derived.RangeFuncFrom
import Derived.Stop.RegionWithIn
set_option maxRecDepth 100000
set_option maxHeartbeats 8000000
namespace Go.Proofs.YtpcmilhjpmlbpaaGreatDoor
open Go.RowKit Go.Shelf nm od
attribute [local go_sem] Oper.semAt_some
theorem bodyM_ret {F:Fence}{n:Nat}{P:Program}{fn:Func}{R:Ending→World→Prop}{a:Act}{w:World}{v:Value}(hr:(results fn a.tmps).run P w= .ok v w)(hd:a.defers= [])(hR:R (.returned v) w):bodyPostM F n P fn R .ret a w:=by
 show LeavesInM F n P fn a.tmps R a.defers .returning w;rw[hd];exact⟨v,hr,hR⟩
theorem row_res {tmps:Array Value}{w:World}{b4 b5:Nat}{v:Value}{c:Int}(h4:tmps.getD 4 undef= .pointer (some ⟨b4,0,none⟩))(h5:tmps.getD 5 undef= .pointer (some ⟨b5,0,none⟩))
 (c4:w.cell? ⟨b4,0,none⟩=some v) (c5:w.cell? ⟨b5,0,none⟩=some (.int .i64 c)):(results Tryz.f35 tmps).run Tryz.prog w= .ok (.tuple #[v,.int .i64 c]) w:=by
 have h4':tmps[4]?.getD undef= .pointer (some ⟨b4,0,none⟩):=by simpa using h4
 have h5':tmps[5]?.getD undef= .pointer (some ⟨b5,0,none⟩):=by simpa using h5
 simp[results,Tryz.f35,go_sem,h4',h5',c4,c5]
theorem Zq {X:World}{b4 b5:Nat}{u4 u5 v c:Value}(hne:b4≠b5)(h4:X.cell? ⟨b4,0,none⟩=some u4)(h5:X.cell? ⟨b5,0,none⟩=some u5):
 ((X.setCell ⟨b4,0,none⟩ v).setCell ⟨b5,0,none⟩ c).cell? ⟨b4,0,none⟩=some v∧((X.setCell ⟨b4,0,none⟩ v).setCell ⟨b5,0,none⟩ c).cell? ⟨b5,0,none⟩=some c:=by
 have e1:(X.setCell ⟨b4,0,none⟩ v).cell? ⟨b4,0,none⟩=some v:=World.cell?_setCell_same' _ _ _ (by rw[h4];rfl);have e2:(X.setCell ⟨b4,0,none⟩ v).cell? ⟨b5,0,none⟩=some u5:=(World.cell?_of_block (w:=X) (a:=⟨b5,0,none⟩) (Below.heap_setCell _ _ _ _ (fun e=>hne e.symm))).trans h5;exact⟨(World.cell?_of_block (w:=X.setCell ⟨b4,0,none⟩ v) (a:=⟨b4,0,none⟩) (Below.heap_setCell _ _ _ _ hne)).trans e1,World.cell?_setCell_same' _ _ _ (by rw[e2];rfl)⟩
theorem kT {n:Nat}{R:Ending→World→Prop}{a:Act}{X:World}{b4 b5:Nat}{u4 u5 v:Value}{c:Int}(h4:a.tmps.getD 4 undef= .pointer (some ⟨b4,0,none⟩))(h5:a.tmps.getD 5 undef= .pointer (some ⟨b5,0,none⟩))(hd:a.defers= [])(hne:b4≠b5)
 (x4:X.cell? ⟨b4,0,none⟩=some u4) (x5:X.cell? ⟨b5,0,none⟩=some u5) (hR:R (.returned (.tuple #[v,.int .i64 c])) ((X.setCell ⟨b4,0,none⟩ v).setCell ⟨b5,0,none⟩ (.int .i64 c))):
 bodyPostM Fence.wide n Tryz.prog Tryz.f35 R .ret a ((X.setCell ⟨b4,0,none⟩ v).setCell ⟨b5,0,none⟩ (.int .i64 c)):=
 bodyM_ret (row_res h4 h5 (Zq hne x4 x5).1 (Zq hne x4 x5).2) hd hR
theorem yS {R:List Rec×Int}{L:List Rec}{c:Int}{v:Value}{w w4 X:World}{b4 b5:Nat}(h:R=(L,c))(hb4:w.heap.size≤b4∧b4<w4.heap.size)(hb5:w.heap.size≤b5∧b5<w4.heap.size)(hs:w.heap.size≤w4.heap.size)(hB:Below w.heap.size w X)
 (ho:X.ownsRow w4.heap.size 80 5 v L.length (qp L)):QN R w (.returned (.tuple #[v,.int .i64 c])) ((X.setCell ⟨b4,0,none⟩ v).setCell ⟨b5,0,none⟩ (.int .i64 c)):=by
 subst h;refine⟨_,rfl,(hB.setCell (p:=⟨b4,0,none⟩) hb4.1 _).setCell (p:=⟨b5,0,none⟩) hb5.1 _,qG (qj ho fun b hb=>?_) hs⟩;have h1:=(ho.lt b hb).1;rw[Below.heap_setCell _ _ _ _ (show b≠b5 by omega),Below.heap_setCell _ _ _ _ (show b≠b4 by omega)]
theorem owns_grown {A B:World}{row:Option Nat}{base:Nat}{e:TypeId}{size:Nat}{v:Value}{n:Nat}{xs:List Value}(h:A.ownsRow base e size v n xs)(hg:A.grownBy B row)(hr:∀r,row=some r→∃o:Obj,A.heap[r]? =some o∧o.isCells=false):B.ownsRow base e size v n xs:=
 qj h fun b hb=>by
  rcases h.2 with⟨rfl,_⟩|⟨g,cap,cur,rfl,h1,h2,_⟩
  ·cases hb
  ·simp only[Value.ownBlock,Option.some.injEq]at hb;subst hb;exact grownBy_keeps_cells hg hr h2 rfl
def RowEx (w w13:World)(k4 k5:Nat)(zs:List Nat)(H:List tr.Zn)(sn:Int)(m:Nat)(c:Code)(pre:List { k:Nat // k<zs.length})(X:World):Prop:=
 ∃pre0 x,pre=pre0 ++ [x]∧tr.yA (tr.q8 H x.1)=sn∧((∀p∈pre0,tr.yA (tr.q8 H p.1)≠sn)∧
  ((c= .ret∧(tr.zF H x.1).length≤m∧Below w.heap.size w X∧∃v,X.cell? ⟨k4,0,none⟩=some v∧X.cell? ⟨k5,0,none⟩=some (.int .i64 0)∧X.ownsRow w13.heap.size 80 5 v (tr.zF H x.1).length (qp (tr.zF H x.1)))∨
    (c= .exit 1∧¬(tr.zF H x.1).length≤m∧Below w13.heap.size w13 X)))
theorem rowEx_own {w w13:World}{k4 k5:Nat}{zs:List Nat}{H:List tr.Zn}{sn:Int}{m:Nat}{c:Code}(hs:w.heap.size≤w13.heap.size):OwnFrom w13.heap.size (RowEx w w13 k4 k5 zs H sn m c):=by
 rintro s A B row ⟨pre0,x,h1,h2,h3,h4⟩ hg hr;refine⟨pre0,x,h1,h2,h3,?_⟩;rcases h4 with⟨hc,hl,hB,v,c4,c5,ho⟩|⟨hc,hl,hB⟩
 ·exact .inl ⟨hc,hl,ownFrom_below (β:=Unit) (Nat.le_refl _) hs () A B row hB hg hr,v,cell_kept c4 hg (fun r e=>(hr r e).2),cell_kept c5 hg (fun r e=>(hr r e).2),owns_grown ho hg fun r e=>(hr r e).2⟩
 ·exact .inr ⟨hc,hl,ownFrom_below (β:=Unit) (Nat.le_refl _) (Nat.le_refl _) () A B row hB hg hr⟩
namespace tr
theorem fr_none {H:List Zn}{s:Int}:∀k,(∀i,i<k→yA (q8 H i)≠s)→frI H s k= -1
 | 0,_=>rfl
 | k+1,h=>by
   unfold frI;rw[if_neg (h k (by omega))];exact fr_none k fun i hi=>h i (by omega)
theorem fr_at {H:List Zn}{s:Int}{f:Nat}(h1:yA (q8 H f)=s):∀k,f<k→(∀i,f<i→i<k→yA (q8 H i)≠s)→frI H s k=(f:Int)
 | 0,h,_=>absurd h (Nat.not_lt_zero _)
 | k+1,h,hn=>by
   unfold frI;by_cases e:f=k
   ·subst e;rw[if_pos h1]
   ·rw[if_neg (hn k (by omega) (by omega))];exact fr_at h1 k (by omega) fun i h2 h3=>hn i h2 (by omega)
end tr
theorem KA {n D:Nat}{R:List Rec×Int}{w:World}{a:Act}{X:World}{b4 b5:Nat}{v:Value}{c:Int}(h4:a.tmps.getD 4 undef= .pointer (some ⟨b4,0,none⟩))(h5:a.tmps.getD 5 undef= .pointer (some ⟨b5,0,none⟩))(hd:a.defers= [{ target:=.collected D,args:=#[]}])(hwD:w.heap.size≤D)(hK:X.heap[D]? =some (.deferred (some [])))
 (c4:X.cell? ⟨b4,0,none⟩=some v) (c5:X.cell? ⟨b5,0,none⟩=some (.int .i64 c)) (hR:QN R w (.returned (.tuple #[v,.int .i64 c])) X):bodyPostM Fence.wide n Tryz.prog Tryz.f35 (fun e w'=>QN R w e w') .ret a X:=by
 show LeavesInM Fence.wide n Tryz.prog _ a.tmps _ a.defers .returning X;rw[hd];have hg:=grownBy_putObj' X D (.deferred none);have hr:∀r,some D=some r→∃o:Obj,X.heap[r]? =some o∧o.isCells=false:=fun r e=>by cases e;exact⟨_,hK,rfl⟩
 refine⟨by simp,.inl ⟨_,_,rfl,run_takeDeferred hK,?_⟩⟩;obtain⟨v',he,hB,ho⟩:=hR;simp only[Ending.returned.injEq,Value.tuple.injEq,Array.mk.injEq,List.cons.injEq,and_true,Value.int.injEq,true_and]at he;obtain⟨rfl,rfl⟩:=he;refine⟨_,row_res h4 h5 (cell_kept c4 hg hr) (cell_kept c5 hg hr),_,rfl,hB.trans (belowK_b (w:=w) (Nat.le_refl _) X D _ _ hwD hK rfl rfl),owns_grown ho hg hr⟩
theorem hrow_any (base h:Nat)(zs:List Nat)(H:List tr.Zn)(h0:0<zs.length)(h8:zs.length≤8)(hi:Int)(rs:Bool)(op:Int)(b3 b4 b5 b6 b7 b8:Bool)(rc:Int)(qs:List Qn)(an au ad:List Rec)(hmb:wi.jE ⟨hi,rs,op,b3,b4,b5,b6,b7,b8,rc⟩ qs an au ad=true)
 (q a u d:Value) (w:World) (hh:xD w base h zs) (hz:Kt w zs H) (rq:yu w q qs) (ra:qm w a an) (ru:qm w u au) (rd:qm w d ad):
 Calls Tryz.prog 35 #[.pointer (some ⟨h,0,none⟩),yZ ⟨hi,rs,op,b3,b4,b5,b6,b7,b8,rc⟩ q a u d] w fun e w'=>QN (tr.zL H op qs au) w e w':=by
 obtain⟨w1,hw1⟩:∃X,X=w.alloc (.cells #[.pointer (some ⟨h,0,none⟩)] 24):=⟨_,rfl⟩;obtain⟨w2,hw2⟩:∃X,X=w1.alloc (.cells (yG ⟨hi,rs,op,b3,b4,b5,b6,b7,b8,rc⟩ q a u d).toArray 33):=⟨_,rfl⟩;obtain⟨w3,hw3⟩:∃X,X=w2.alloc (.cells #[.slice none 0 0] 31):=⟨_,rfl⟩;obtain⟨w4,hw4⟩:∃X,X=w3.alloc (.cells #[.int .i64 0] 3):=⟨_,rfl⟩;have hB1:Below w.heap.size w w1:=by rw[hw1];exact(Below.refl _ _).alloc (Nat.le_refl _) _
 obtain⟨hB2,hs2,hm2⟩:=zC hw2;have hB3:Below w2.heap.size w2 w3:=by rw[hw3];exact(Below.refl _ _).alloc (Nat.le_refl _) _
 have hB4:Below w3.heap.size w3 w4:=by rw[hw4];exact(Below.refl _ _).alloc (Nat.le_refl _) _
 have hs1:w1.heap.size=w.heap.size+1:=by rw[hw1];simp
 have hs3:w3.heap.size=w2.heap.size+1:=by rw[hw3];simp
 have hs4:w4.heap.size=w3.heap.size+1:=by rw[hw4];simp
 obtain⟨k2,hk2⟩:∃b,b=w.heap.size:=⟨_,rfl⟩;obtain⟨km,hkm⟩:∃b,b=w.heap.size+1:=⟨_,rfl⟩;obtain⟨k4,hk4⟩:∃b,b=w.heap.size+1+1:=⟨_,rfl⟩;obtain⟨k5,hk5⟩:∃b,b=w.heap.size+1+1+1:=⟨_,rfl⟩;have hB24:Below w2.heap.size w2 w4:=hB3.trans (hB4.mono (by omega));have hB14:Below w1.heap.size w1 w4:=hB2.trans (hB24.mono (by omega));have hB04:Below w.heap.size w w4:=hB1.trans (hB14.mono (by omega));rw[hs1,← hkm]at hm2;have x2:w4.cell? ⟨k2,0,none⟩=some (.pointer (some ⟨h,0,none⟩)):=(hB14.cell (p:=⟨k2,0,none⟩) (by show k2<_;omega)).trans (by rw[hw1,hk2];exact(zw w _ _).1);have n4:w3.heap[k4]? =some (.cells #[.slice none 0 0] 31 (0,0)):=by rw[hw3,show k4=w2.heap.size by omega];exact qz rfl
 have n5:w4.heap[k5]? =some (.cells #[.int .i64 0] 3 (0,0)):=by rw[hw4,show k5=w3.heap.size by omega];exact qz rfl
 have n4':=(hB4.block k4 (qA n4)).trans n4;have zD:=qe (show ∀X,Below w4.heap.size w4 X→X.cell? ⟨k2,0,none⟩=some (.pointer (some ⟨h,0,none⟩))∧X.cell? ⟨k4,0,none⟩=some (.slice none 0 0)∧X.frozen? ⟨k4,0,none⟩=false∧X.cell? ⟨k5,0,none⟩=some (.int .i64 0)∧X.frozen? ⟨k5,0,none⟩=false from fun X hX=>
  ⟨(hX.cell (p:=⟨k2,0,none⟩) (by show k2<_;omega)).trans x2,by rw[qh ((hX.block k4 (qA n4')).trans n4')];rfl,qE ((hX.block k4 (qA n4')).trans n4') 0,by rw[qh ((hX.block k5 (qA n5)).trans n5)];rfl,qE ((hX.block k5 (qA n5)).trans n5) 0⟩)
 have hW4:w4=(((w.alloc (.cells #[.pointer (some ⟨h,0,none⟩)] 24)).alloc (.cells (yG ⟨hi,rs,op,b3,b4,b5,b6,b7,b8,rc⟩ q a u d).toArray 33)).alloc (.cells #[.slice none 0 0] 31)).alloc (.cells #[.int .i64 0] 3):=by rw[hw4,hw3,hw2,hw1]
 have HM:=qe (show qy w4 km _ _ _ _ _ from hm2.below hB24);have Ke:=qe (show w.heap.size≤k4∧k4<w4.heap.size by omega);have Kc:=qe (show w.heap.size≤k5∧k5<w4.heap.size by omega);have hne:k4≠k5:=by omega
 have hne':k5≠k4:=by omega
 have HNE:=qe hne;have HK2:=qe hk2;have HKM:=qe hkm;have HK4:=qe hk4;have HK5:=qe hk5;have HW4:=qe hW4;have jk:=qe hB04;clear hw1 hw2 hw3 hw4 hB1 hB2 hB3 hB4 hB24 hB14 hB04 hs1 hs2 hs3 hs4 hm2 x2 n4 n5 n4' hk2 hkm hk4 hk5 hW4;obtain⟨n,hn⟩:∃n,n=zs.length:=⟨_,rfl⟩;obtain⟨n1,hn1⟩:∃n1,n1=n-1:=⟨_,rfl⟩;have hlen:=hz.1;have hOK:∀i (hi:i<zs.length),tr.Ok (tr.q8 H i)∧∃tz,jA w tz zs[i] (tr.q8 H i).ap (tr.q8 H i).l:=fun i hi=>by
  have hiH:i<H.length:=by omega
  rw[tr.uL hiH];exact hz.2 i hi hiH
 have hlast:tr.qN H=tr.q8 H n1:=by unfold tr.qN;congr 1;omega
 obtain⟨Z,hZ⟩:∃Z,Z=tr.q8 H n1:=⟨_,rfl⟩;rw[← hZ]at hlast;obtain⟨z0,hz0⟩:∃z,z=zs[n1]'(by omega):=⟨_,rfl⟩;obtain⟨ok0,tz,zf0⟩:=hOK n1 (by omega);rw[← hZ,← hz0]at zf0;rw[← hZ]at ok0;obtain⟨mq,mu⟩:=tr.msg_facts hmb;have HZN:=qe (show ∀X,Below w.heap.size w X→Calls Tryz.prog 31 #[.pointer (some ⟨h,0,none⟩)] X fun e w'=>e= .returned (qW z0)∧Below X.heap.size X w' from fun X hX=>by
  have h1:=QT base h zs (by omega) (by omega) X (hh.below hX);have e:zs[zs.length-1]'(by omega)=z0:=by rw[hz0];congr 1;omega
  rw[e]at h1;exact h1)
 have HAP:=qe (show ∀X,Below w.heap.size w X→Calls Tryz.prog 24 #[qW z0] X fun e w'=>e= .returned (.string Z.ap)∧Below X.heap.size X w' from fun X hX=>by
  obtain⟨_,_,_,_,_,_,_,h2,_⟩:=(zf0.kept hX).v.parts;refine(xw z0 Z.ap _ _ _ X h2).mono ?_;rintro e w' ⟨rfl,rfl⟩;exact⟨rfl,Below.refl _ _⟩)
 have HSR:=qe (show ∀X,Below w.heap.size w X→Calls Tryz.prog 61 #[qW z0] X fun e w'=>e= .returned (.int .i64 (tr.yA Z))∧Below X.heap.size X w' from fun X hX=>JL tz z0 Z ok0 X (zf0.kept hX));have HSA:=qe (show ∀i (hi:i<zs.length),∀X,Below w.heap.size w X→Calls Tryz.prog 61 #[qW zs[i]] X fun e w'=>e= .returned (.int .i64 (tr.yA (tr.q8 H i)))∧Below X.heap.size X w' from fun i hi X hX=>by
  obtain⟨o1,t1,z1⟩:=hOK i hi;exact JL t1 zs[i] _ o1 X (z1.kept hX))
 have HWH:=qe (show ∀X,Below w.heap.size w X→Calls Tryz.prog 67 #[qW z0] X fun e w'=>yn (tr.zX Z) X e w' from fun X hX=>twhole_any tz z0 Z ok0 X (zf0.kept hX));have HST:=qe (show ∀k,k<zs.length→∀X,Below w.heap.size w X→Calls Tryz.prog 70 #[.pointer (some ⟨h,0,none⟩),.int .i64 (k:Int)] X fun e w'=>yn (tr.zF H k) X e w' from fun k hk X hX=>steps_any base h zs H h8 k hk X (hh.below hX) (hz.below hX));have HSO:=qe (show ∀X,Below w.heap.size w X→Calls Tryz.prog 48 #[qW z0] X fun e w'=>e= .returned (ym (tr.ze Z))∧Below X.heap.size X w' from fun X hX=>YC tz z0 Z ok0 X (zf0.kept hX));have HH:=qe hh;have xE:=qe hlast;have HN:=qe hn;have H8:=qe h8;have H00:=qe h0;have HLN:=qe hlen;have HQ:=qe (rq.below jk.out);have HU:=qe (ru.below jk.out);have HMQ:=qe mq;have HMU:=qe mu;obtain⟨qa,qc,rfl,-⟩:=id rq;obtain⟨aa,ac,rfl,-⟩:=id ra;obtain⟨ua,uc,rfl,-⟩:=id ru;obtain⟨da,dc,rfl,-⟩:=id rd;clear hn hn1 hlen hOK hlast hZ hz0 ok0 zf0 hh hz rq ra ru rd mq mu hmb h0 h8;obtain⟨m0,m1,m2,m3,m4,m5,m6,m7,m8,m9,m10,m11,m12,m13⟩:=(HM.out.below (Below.refl _ _)).facts;obtain⟨y2,y4,f4,y5,f5⟩:=zD.out _ (Below.refl _ _);refine(callsIn_wide (n:=9)).1 ?_;refine callsIn_of_wp_marks Tryz.func35 rfl trivial ?_ rfl;refine wpIn_wide.2 ?_;simp only[Tryz.ntmps35,List.size_toArray,List.length_cons,List.length_nil,Nat.reduceAdd,Nat.reduceSub,Array.replicate_succ,Array.replicate_zero,List.push_toArray,List.append_toArray,List.nil_append,List.cons_append];go_upto_region 1 with fail;rw[← HK5.out,← HK4.out,← HKM.out,← HK2.out,← HW4.out];have HRF:=qe (Below.refl w4.heap.size w4);by_cases hq1:qs.length=1
 ·have e4:((qs.length:Int) != 1)=false:=by rw[bne_eq_false_iff_eq];omega
  obtain⟨_,_,hv,-,hr0⟩:=id HQ.out;simp only[Value.slice.injEq,true_and]at hv;obtain⟨rfl,rfl⟩:=hv;obtain⟨qb,Xj,rfl,hqb,c0,c1,c2⟩:=hr0 0 (by omega);obtain⟨q0,hq0⟩:∃q0,q0=qs[0]'(by omega):=⟨_,rfl⟩;rw[← hq0]at c0 c1 c2;simp only[Nat.zero_mul,Nat.add_zero]at c0 c1 c2;have hqs:qs= [q0]:=by
   obtain⟨y,hy⟩:=List.length_eq_one_iff.1 hq1;have:q0=y:=by rw[hq0];simp[hy]
   rw[this,hy]
  have hl0:0<qs.length:=by omega
  obtain⟨w5,hw5⟩:∃W,W=w4.alloc (.cells (qnC q0).toArray 78):=⟨_,rfl⟩;obtain⟨hB5,hs5,hx5⟩:=Vh w4 w5 q0 hw5;obtain⟨bq,hbq⟩:∃b,b=w4.heap.size:=⟨_,rfl⟩;rw[← hbq]at hx5;have HQS:=qe hqs;have HW5:=qe hw5;have HBQ:=qe hbq;have HX5:=qe hx5;have HB5:=qe hB5;have HBQL:=qe (show bq<w5.heap.size by omega);clear hr0 hqb hq0 hqs hq1 hw5 hB5 hs5 hbq hx5;go_upto_region 4 with fail;rw[← HW5.out,← HBQ.out];clear c0 c1 c2 hl0 e4;clear m0 m1 m2 m3 m4 m5 m6 m7 m8 m9 m10 m11 m12 m13 y2 y4 f4 y5 f5;obtain⟨m0,m1,m2,m3,m4,m5,m6,m7,m8,m9,m10,m11,m12,m13⟩:=(HM.out.below HB5.out).facts;obtain⟨y2,y4,f4,y5,f5⟩:=zD.out _ HB5.out;have Y0:=qe (jk.out.trans (HB5.out.mono jk.out.size));obtain⟨x0,x1,x2⟩:=id HX5.out;simp only[Nat.zero_add]at x1 x2;by_cases ho:op=0
  ·have e3:(op != 0)=false:=by rw[bne_eq_false_iff_eq];exact ho
   have HOP:=qe ho;clear ho;obtain⟨ib,hib⟩:∃ib,ib=qF q0.name Z.ap:=⟨_,rfl⟩;have CE:Hid (∀p,Calls Tryz.prog 62 #[.string q0.name,.string Z.ap] (gw w5 p) fun e w''=>e= .returned (.bool ib)∧∃p',w''=gw w5 p'):=qe fun p=>by rw[hib];exact qV (QV q0.name Z.ap _)
   have CZ:Hid (∀p,Calls Tryz.prog 31 #[.pointer (some ⟨h,0,none⟩)] (gw w5 p) fun e w''=>e= .returned (qW z0)∧∃p',w''=gw w5 p'):=qe fun p=>qV (HZN.out _ (Y0.out.trans ((qB w5 p).mono Y0.out.size)));have CA:Hid (∀p,Calls Tryz.prog 24 #[qW z0] (gw w5 p) fun e w''=>e= .returned (.string Z.ap)∧∃p',w''=gw w5 p'):=qe fun p=>qV (HAP.out _ (Y0.out.trans ((qB w5 p).mono Y0.out.size)));have HIB:=qe hib;have k0:=qf y2;have k1:=qf x0;have k2':=qf x2;clear hib;by_cases kc:q0.cls=1
   ·have e6:(q0.cls != 1)=false:=by rw[bne_eq_false_iff_eq];exact kc
    go_upto_region 6 with fail;clear e3;refine ql (by kernel_rfl) (by kernel_rfl) ?_
    repeat (with_reducible refine wpQuiet_step (fun K hK=>?_);go_simp;(try simp only[undef]);first | (with_reducible refine hK _ ?_;clear hK K) | (apply Exists.intro;refine⟨fun _=>?_,hK _ ?_⟩;(first | (go_at_call 31;with_reducible exact CZ.out _) | (go_at_call 24;with_reducible exact CA.out _) | (go_at_call 62;with_reducible exact CE.out _));clear hK K) | (with_reducible refine⟨fun _ h=>(by cases h),?_⟩;with_reducible refine hK _ ?_;clear hK K))
    refine wpQuiet_nil ?_
    (try simp only[show Value.tuple #[]=undef from rfl])
    intro U hU;have hBU:Below w5.heap.size w5 U:=by obtain⟨g,rfl⟩:=hU;exact qB _ g
    clear hU;have HB6:=qe (HB5.out.trans (hBU.mono HB5.out.size));have HU5:=qe hBU;clear hBU k0 k1 k2' e6;clear m0 m1 m2 m3 m4 m5 m6 m7 m8 m9 m10 m11 m12 m13 y2 y4 f4 y5 f5;obtain⟨m0,m1,m2,m3,m4,m5,m6,m7,m8,m9,m10,m11,m12,m13⟩:=(HM.out.below HB6.out).facts;obtain⟨y2,y4,f4,y5,f5⟩:=zD.out _ HB6.out
    cases ib
    ·have HRW:=qe (show tr.zL H op qs au=([],9) from(by rw[HQS.out];exact tr.XF HOP.out (by rw[xE.out,← HIB.out];simp)));have HY4:=qe y4;have HY5:=qe y5;go_wp2_with fail
     (try simp only[Exit.inBlock,Exit.then])
     exact kT rfl rfl rfl HNE.out HY4.out HY5.out (yS HRW.out Ke.out Kc.out jk.out.size (jk.out.trans (HB6.out.mono jk.out.size)) (World.ownsRow_nil _ _ _ _))
    ·have HC:=qe (show q0.cls=1∧qF q0.name (tr.qN H).ap=true from⟨kc,by rw[xE.out];exact HIB.out.symm⟩);have VG:=qe (jk.out.trans (HB6.out.mono jk.out.size));clear kc;obtain⟨x0,x1,x2⟩:=HX5.out.keep (HU5.out.block bq HBQL.out);simp only[Nat.zero_add]at x1 x2;by_cases QJ:q0.typ=252
     ·have e7:(q0.typ == 252)=true:=by rw[beq_iff_eq];exact QJ
      have HRW:=qe (show tr.zL H op qs au=(tr.zX Z,0) by rw[HQS.out,tr.Va HOP.out HC.out QJ,xE.out]);clear QJ;go_wp2_with fail;refine(HZN.out U VG.out).mono ?_;rintro e w7 ⟨rfl,hB7⟩;have HB7:=qe (HB6.out.trans (hB7.mono HB6.out.size));have HB17:=qe (VG.out.trans (hB7.mono VG.out.size));clear hB7;go_wp2_with fail;refine(HWH.out w7 HB17.out).mono ?_;rintro e w8 ⟨v8,rfl,hBw8,hOw8⟩;obtain⟨aw8,cw8,rfl,-⟩:=qi hOw8;have HOw8:=qe (qG hOw8 (Below.size HB7.out));have HBw8:=qe (Below.trans HB7.out (hBw8.mono (Below.size HB7.out)));clear hOw8 hBw8;clear m0 m1 m2 m3 m4 m5 m6 m7 m8 m9 m10 m11 m12 m13 y2 y4 f4 y5 f5;obtain⟨m0,m1,m2,m3,m4,m5,m6,m7,m8,m9,m10,m11,m12,m13⟩:=(HM.out.below HBw8.out).facts;obtain⟨y2,y4,f4,y5,f5⟩:=zD.out _ HBw8.out;have HY4:=qe y4;have HY5:=qe y5;go_wp2_with fail
      (try simp only[Exit.inBlock,Exit.then])
      exact kT rfl rfl rfl HNE.out HY4.out HY5.out (yS HRW.out Ke.out Kc.out jk.out.size (jk.out.trans (HBw8.out.mono jk.out.size)) HOw8.out)
     ·have e7:(q0.typ == 252)=false:=by rw[beq_eq_false_iff_ne];exact QJ
      by_cases Vr:q0.typ=251
      ·have e8:(q0.typ != 251)=false:=by rw[bne_eq_false_iff_eq];exact Vr
       have HK:=qe Vr;clear QJ Vr;by_cases hu1:au.length=1
       ·have e9:((au.length:Int) != 1)=false:=by rw[bne_eq_false_iff_eq];omega
        obtain⟨_,_,hv,-,hr0⟩:=HU.out.below HB6.out;simp only[Value.slice.injEq,true_and]at hv;obtain⟨rfl,rfl⟩:=hv;obtain⟨ub,uoff,rfl,hub,c0,c1,c2,c3,c4⟩:=hr0 0 (by omega);obtain⟨r0,hr0'⟩:∃r0,r0=au[0]'(by omega):=⟨_,rfl⟩;rw[← hr0']at c0 c1 c2 c3 c4;simp only[Nat.zero_mul,Nat.add_zero]at c0 c1 c2 c3 c4;have hau:au= [r0]:=by
         obtain⟨y,hy⟩:=List.length_eq_one_iff.1 hu1;have:r0=y:=by rw[hr0'];simp[hy]
         rw[this,hy]
        have hl0:0<au.length:=by omega
        have HAU:=qe hau;clear hr0 hub hr0' hau hu1;by_cases k6:r0.typ=6
        ·have e10:(r0.typ != 6)=false:=by rw[bne_eq_false_iff_eq];exact k6
         by_cases kd:r0.data.size=0
         ·have e11:=yQ kd;have HRW0:=qe (show tr.zL H op qs au=([],1) by rw[HQS.out,HAU.out];exact tr.XG HOP.out HC.out HK.out (.inr kd));clear kd k6;have HRW:=qe (show tr.zL H op qs au=([],1) from HRW0.out);have HY4:=qe y4;have HY5:=qe y5;go_wp2_with fail
          (try simp only[Exit.inBlock,Exit.then])
          exact kT rfl rfl rfl HNE.out HY4.out HY5.out (yS HRW.out Ke.out Kc.out jk.out.size (jk.out.trans (HB6.out.mono jk.out.size)) (World.ownsRow_nil _ _ _ _))
         ·have e11:=ji kd;have HDS:=qe ((HMU.out r0 (by rw[HAU.out];simp)).2 k6 kd);have HRW:=qe (show tr.zL H op qs au=tr.J4 H (up.QI r0.data) by rw[HQS.out,HAU.out];exact tr.row_step HOP.out HC.out HK.out k6 kd);clear kd k6;go_upto_region 14 with fail;clear e7 e8 e9 e10 e11 x0 x1 x2;obtain⟨sn,hsn⟩:∃s,s=up.QI r0.data:=⟨_,rfl⟩;have HSN:=qe (VK r0 HDS.out.1 (by have:=HDS.out.2;omega) U);rw[← hsn]at HSN HRW;clear hsn;go_wp2_with fail;refine HSN.out.mono ?_;rintro e w7 ⟨rfl,hB7⟩;have HB7:=qe (HB6.out.trans (hB7.mono HB6.out.size));have HB17:=qe (VG.out.trans (hB7.mono VG.out.size));clear hB7 c0 c1 c2 c3 c4 hl0;clear m0 m1 m2 m3 m4 m5 m6 m7 m8 m9 m10 m11 m12 m13 y2 y4 f4 y5 f5;obtain⟨w8,hw8⟩:∃X,X=w7.alloc (.cells #[.int .i64 sn] 3):=⟨_,rfl⟩;obtain⟨k7,hk7⟩:∃b,b=w7.heap.size:=⟨_,rfl⟩;have hB78:Below w7.heap.size w7 w8:=by rw[hw8];exact(Below.refl _ _).alloc (Nat.le_refl _) _
          have hn7:w8.heap[k7]? =some (.cells #[.int .i64 sn] 3 (0,0)):=by rw[hw8,hk7];exact qz rfl
          have HC7:=qe (show ∀X,Below w8.heap.size w8 X→X.cell? ⟨k7,0,none⟩=some (.int .i64 sn) from fun X hX=>by rw[qh ((hX.block k7 (qA hn7)).trans hn7)];rfl);have HB8:=qe (HB7.out.trans (hB78.mono HB7.out.size));have HB18:=qe (HB17.out.trans (hB78.mono HB17.out.size));have HW8:=qe hw8;have HK7:=qe hk7;clear hw8 hk7 hB78 hn7;go_upto_region 15 with fail;rw[← HW8.out,← HK7.out];obtain⟨m0,m1,m2,m3,m4,m5,m6,m7,m8,m9,m10,m11,m12,m13⟩:=(HM.out.below HB8.out).facts;obtain⟨y2,y4,f4,y5,f5⟩:=zD.out _ HB8.out;have x7:=HC7.out w8 (Below.refl _ _);obtain⟨nb,hnb⟩:∃b,b=tr.zR (tr.yA Z) sn:=⟨_,rfl⟩;have CZ:Hid (∀p,Calls Tryz.prog 31 #[.pointer (some ⟨h,0,none⟩)] (gw w8 p) fun e w''=>e= .returned (qW z0)∧∃p',w''=gw w8 p'):=qe fun p=>qV (HZN.out _ (HB18.out.trans ((qB w8 p).mono HB18.out.size)));have CS:Hid (∀p,Calls Tryz.prog 61 #[qW z0] (gw w8 p) fun e w''=>e= .returned (.int .i64 (tr.yA Z))∧∃p',w''=gw w8 p'):=qe fun p=>qV (HSR.out _ (HB18.out.trans ((qB w8 p).mono HB18.out.size)));have CN:Hid (∀p,Calls Tryz.prog 8 #[.int .i64 (tr.yA Z),.int .i64 sn] (gw w8 p) fun e w''=>e= .returned (.bool nb)∧∃p',w''=gw w8 p'):=qe fun p=>qV ((JR (tr.yA Z) sn _).mono fun e w' h=>⟨by rw[hnb];exact h.1,by rw[h.2];exact Below.refl _ _⟩);have HNB:=qe hnb;have k0:=qf y2;have k1:=qf x7;clear hnb;refine ql (by kernel_rfl) (by kernel_rfl) ?_
          repeat (with_reducible refine wpQuiet_step (fun K hK=>?_);go_simp;(try simp only[undef]);first | (with_reducible refine hK _ ?_;clear hK K) | (apply Exists.intro;refine⟨fun _=>?_,hK _ ?_⟩;(first | (go_at_call 31;with_reducible exact CZ.out _) | (go_at_call 61;with_reducible exact CS.out _) | (go_at_call 8;with_reducible exact CN.out _));clear hK K) | (with_reducible refine⟨fun _ h=>(by cases h),?_⟩;with_reducible refine hK _ ?_;clear hK K))
          refine wpQuiet_nil ?_
          (try simp only[show Value.tuple #[]=undef from rfl])
          intro V hV;have hBV:Below w8.heap.size w8 V:=by obtain⟨g,rfl⟩:=hV;exact qB _ g
          clear hV;have HB9:=qe (HB8.out.trans (hBV.mono HB8.out.size));have HB19:=qe (HB18.out.trans (hBV.mono HB18.out.size));have HV8:=qe hBV;clear hBV k0 k1 x7;clear m0 m1 m2 m3 m4 m5 m6 m7 m8 m9 m10 m11 m12 m13 y2 y4 f4 y5 f5;obtain⟨m0,m1,m2,m3,m4,m5,m6,m7,m8,m9,m10,m11,m12,m13⟩:=(HM.out.below HB9.out).facts;obtain⟨y2,y4,f4,y5,f5⟩:=zD.out _ HB9.out
          cases nb
          ·have HRS:=qe (show tr.zL H op qs au=([tr.ze Z],0) by rw[HRW.out];unfold tr.J4;rw[xE.out,if_pos HNB.out.symm]);obtain⟨r,hr⟩:∃r,r=tr.ze Z:=⟨_,rfl⟩;rw[← hr]at HSO HRS;clear hr;go_wp2_with fail;refine(HZN.out V HB19.out).mono ?_;rintro e w10 ⟨rfl,Zb⟩;have yV:=qe (HB9.out.trans (Zb.mono HB9.out.size));have HB110:=qe (HB19.out.trans (Zb.mono HB19.out.size));clear Zb;go_wp2_with fail;refine(HSO.out w10 HB110.out).mono ?_;rintro e w11 ⟨rfl,Yk⟩;have HB11:=qe (yV.out.trans (Yk.mono yV.out.size));have HB111:=qe (HB110.out.trans (Yk.mono HB110.out.size));clear Yk;obtain⟨w12,hw12⟩:∃X,X=w11.alloc (.cells (recC r).toArray 80):=⟨_,rfl⟩;obtain⟨hBn,-,-⟩:=qY w11 w12 r hw12;have hB12:=HB11.out.trans (hBn.mono HB11.out.size);have hon:=jK (base:=w4.heap.size) r hw12 HB11.out.size;clear m0 m1 m2 m3 m4 m5 m6 m7 m8 m9 m10 m11 m12 m13 y2 y4 f4 y5 f5;obtain⟨-,y4,f4,y5,f5⟩:=zD.out _ hB12;have HY4:=qe y4;have HY5:=qe y5;have HF:=qe (yS HRS.out Ke.out Kc.out jk.out.size (jk.out.trans (hB12.mono jk.out.size)) hon);rw[hw12]at y4 f4 y5 f5 HY4 HY5 HF;clear hw12 hBn hB12 hon;go_wp2_with fail
           (try simp only[Exit.inBlock,Exit.then])
           exact kT rfl rfl rfl HNE.out HY4.out HY5.out HF.out
          ·have HRS:=qe (show tr.zL H op qs au=if 0≤tr.frI H sn n∧(tr.zF H (tr.frI H sn n).toNat).length≤(tr.zX Z).length then(tr.zF H (tr.frI H sn n).toNat,0) else(tr.zX Z,0) by
            rw[HRW.out];unfold tr.J4;rw[xE.out,if_neg (by rw[← HNB.out];simp),← HLN.out,← HN.out])
           clear HRW;go_wp2_with fail;refine(HZN.out V HB19.out).mono ?_;rintro e w10 ⟨rfl,Zb⟩;have yV:=qe (HB9.out.trans (Zb.mono HB9.out.size));have HB110:=qe (HB19.out.trans (Zb.mono HB19.out.size));have HV10:=qe (HV8.out.trans (Zb.mono HV8.out.size));clear Zb;go_wp2_with fail;refine(HWH.out w10 HB110.out).mono ?_;rintro e w11 ⟨v11,rfl,Yk,hO11⟩;have HB11:=qe (yV.out.trans (Yk.mono yV.out.size));have HO11:=qe (qG hO11 yV.out.size);have HV11:=qe (HV10.out.trans (Yk.mono HV10.out.size));obtain⟨W,hW⟩:∃W,W=tr.zX Z:=⟨_,rfl⟩;rw[← hW]at HO11 HRS hO11;obtain⟨a11,c11,rfl,-⟩:=qi hO11;obtain⟨w12,hw12⟩:∃X,X=w11.alloc (.cells #[.slice a11 W.length c11] 31):=⟨_,rfl⟩;obtain⟨k8,hk8⟩:∃b,b=w11.heap.size:=⟨_,rfl⟩;have hB12:Below w11.heap.size w11 w12:=by rw[hw12];exact(Below.refl _ _).alloc (Nat.le_refl _) _
           have hn8:w12.heap[k8]? =some (.cells #[.slice a11 W.length c11] 31 (0,0)):=by rw[hw12,hk8];exact qz rfl
           have xW:=qe (HB11.out.trans (hB12.mono HB11.out.size));have HB112:=qe (jk.out.trans (xW.out.mono jk.out.size));have HO12:=qe (ownsRow_below HO11.out hB12);have HC8:=qe (show ∀X,Below w12.heap.size w12 X→X.cell? ⟨k8,0,none⟩=some (.slice a11 W.length c11) from fun X hX=>by rw[qh ((hX.block k8 (qA hn8)).trans hn8)];rfl);have HV12:=qe (HV11.out.trans (hB12.mono HV11.out.size));have HW12:=qe hw12;have HK8:=qe hk8;obtain⟨g,cap,hgl,hcap,hc0,hcz⟩:=(HH.out.below HB112.out).cells;clear m0 m1 m2 m3 m4 m5 m6 m7 m8 m9 m10 m11 m12 m13 y2 y4 f4 y5 f5;clear Yk hO11 hW hw12 hk8 hB12 hn8;go_upto_region 18 with fail;rw[← HW12.out,← HK8.out];obtain⟨y2,-,-,-,-⟩:=zD.out _ xW.out;go_wp2_with fail;refine(back_any _ _ _ _).mono ?_;rintro e w13 ⟨rfl,hw13⟩;obtain⟨kB,hkB⟩:∃b,b=w12.heap.size:=⟨_,rfl⟩;have hB13:Below w12.heap.size w12 w13:=by rw[hw13];exact(Below.refl _ _).alloc (Nat.le_refl _) _
           have hnB:w13.heap[kB]? =some (.cells #[.slice (some ⟨g,0,none⟩) zs.length cap] 118 (0,0)):=by rw[hw13,hkB];exact qz rfl
           have cB:w13.cell? ⟨kB,0,none⟩=some (.slice (some ⟨g,0,none⟩) zs.length cap):=by rw[qh hnB];rfl
           have hBl:kB<w13.heap.size:=qA hnB;have hgl13:g<w13.heap.size:=Nat.lt_of_lt_of_le hgl hB13.size;have hcz13:∀k (hk:k<zs.length),w13.cell? ⟨g,k,none⟩=some (qW zs[k]):=fun k hk=>(hB13.cell (p:=⟨g,k,none⟩) hgl).trans (hcz k hk);have um:=qe (xW.out.trans (hB13.mono xW.out.size));have HB113:=qe (jk.out.trans (um.out.mono jk.out.size));have HV13:=qe (HV12.out.trans (hB13.mono HV12.out.size));have HX13:=qe hB13;have HO13:=qe (ownsRow_below HO12.out hB13);have HAL:=qe (show ∀Y,Below w13.heap.size w13 Y→Below w.heap.size w Y∧Below w4.heap.size w4 Y∧Y.cell? ⟨k7,0,none⟩=some (.int .i64 sn)∧Y.cell? ⟨k8,0,none⟩=some (.slice a11 W.length c11)∧Y.ownsRow w4.heap.size 80 5 (.slice a11 W.length c11) W.length (qp W) from fun Y hY=>
            ⟨HB113.out.trans (hY.mono HB113.out.size),um.out.trans (hY.mono um.out.size),HC7.out Y (HV13.out.trans (hY.mono HV13.out.size)),HC8.out Y (HX13.out.trans (hY.mono HX13.out.size)),ownsRow_below HO13.out hY⟩)
           rw[← hkB];clear hw13 hkB hB13 hnB hgl hc0 hcz y2 HC7 HC8 HV13 HX13 HO13;go_wp2_with fail;refine(wpIn_wide (n:=9)).1 ?_;refine wpIn_rangeFunc_ownF rfl (by omega) (gf:=105) (lb:=#[.pointer (some ⟨kB,0,none⟩)]) rfl trivial (enters_of Tryz.func105 (by kernel_rfl) rfl)
            (back_stops Fence.wide (9-1) trivial rfl (by omega) kB g cap zs (by have:=H8.out;omega) w13 hBl hgl13 cB hcz13) (fun h1 h2=>⟨uA h1.1 h2.1,uA h1.2 h2.2⟩) (fun W l o o' hl h1 h2 h3=>⟨uB hBl W l o o' hl h1 h2 h3,uB hgl13 W l o o' hl h1 h2 h3⟩) (Below.refl _ _) (fun _=>rfl)
            (fun pre X=>(∀p∈pre,tr.yA (tr.q8 H p.1)≠sn)∧Below w13.heap.size w13 X)
            (fun c pre X=>RowEx w w13 k4 k5 zs H sn W.length c pre X)
            (OwnFrom.and (Own.from (fun s A B row hs hg hr=>hs) _) (ownFrom_below (Nat.le_refl _) (Nat.le_refl _)))
            (fun c=>rowEx_own HB113.out.size)
            ⟨fun p hp=>absurd hp (by simp),Below.refl _ _⟩ ?a1 ?assign ?body ?done ?stop
           case assign=>
            intro l x X K hK;have HKK:=qe hK;clear hK
            gi_wp2
            exact HKK.out
           case body=>
            rintro l pre x X ⟨hp,hB⟩ hlen;obtain⟨xk,hxk⟩:=x;have HP:=qe hp;have HBX:=qe hB;clear hp hB hlen;have c7:=(HAL.out X HBX.out).2.2.1;have hf1:Fence.wide.fn 61:=trivial;have hf2:Fence.wide.fn 70:=trivial
            gi_wp2
            gi_region_with (gi_at_call 61;(with_reducible refine(ZQ (HSA.out xk hxk _ (HAL.out X HBX.out).1.drew)).mono ?_);rintro e wS ⟨rfl,hbS⟩;have hS:=Below.trans (B:=X.heap.size) (a:=X) (Below.refl _ _).drew (hbS.mono (Nat.le_refl _));have c7S:=(HAL.out wS (HBX.out.trans (hS.mono HBX.out.size))).2.2.1)
            all_goals
             have HS:=qe hS;have HB13S:=qe (HBX.out.trans (hS.mono HBX.out.size));clear hS hbS c7 c7S;by_cases he:tr.yA (tr.q8 H xk)=sn
             ·have e1:(tr.yA (tr.q8 H xk) == sn)=true:=by rw[beq_iff_eq];exact he
              have HE:=qe he;clear he;have y2:=(zD.out wS (HAL.out wS HB13S.out).2.1).1
              gi_wp2_with fail
              refine(ZQ (HST.out xk hxk wS (HAL.out wS HB13S.out).1)).mono ?_;rintro e wT ⟨vT,rfl,hBT,hOT⟩;obtain⟨aT,cT,rfl,-⟩:=qi hOT;have HB13T:=qe (HB13S.out.trans (hBT.mono HB13S.out.size));have HT:=qe (HS.out.trans (hBT.mono HS.out.size));have HOT:=qe hOT;clear hBT hOT y2;obtain⟨T,hT⟩:∃T,T=tr.zF H xk:=⟨_,rfl⟩;rw[← hT]at HOT ⊢;have HTE:=qe hT;clear hT;have x8:=(HAL.out wT HB13T.out).2.2.2.1;obtain⟨-,y4,f4,y5,f5⟩:=zD.out wT (HAL.out wT HB13T.out).2.1;have HY4:=qe y4;have HY5:=qe y5;by_cases hc:T.length≤W.length
              ·have e2:decide ((T.length:Int)≤(W.length:Int))=true:=decide_eq_true (by omega);have HC:=qe hc;clear hc
               gi_wp2
               refine⟨((ug HT.out).trans (KeepsOthers.setCell _ _ _)).trans (KeepsOthers.setCell _ _ _),pre,⟨xk,hxk⟩,rfl,HE.out,HP.out,.inl ⟨rfl,by rw[← HTE.out];exact HC.out,?_,_,(Zq HNE.out HY4.out HY5.out).1,(Zq HNE.out HY4.out HY5.out).2,?_⟩⟩
               ·exact(((HAL.out wT HB13T.out).1).setCell (p:=⟨k4,0,none⟩) Ke.out.1 _).setCell (p:=⟨k5,0,none⟩) Kc.out.1 _
               ·rw[← HTE.out];refine qG (qj HOT.out fun b hb=>?_) HB13S.out.size;have h1:=(HOT.out.lt b hb).1;have h2:=HB13S.out.size;have h3:=um.out.size;have h4:=Ke.out.2;have h5:=Kc.out.2;rw[Below.heap_setCell _ _ _ _ (show b≠k5 by omega),Below.heap_setCell _ _ _ _ (show b≠k4 by omega)]
              ·have e2:decide ((T.length:Int)≤(W.length:Int))=false:=decide_eq_false (by omega);have HC:=qe hc;clear hc
               gi_wp2
               exact⟨ug HT.out,pre,⟨xk,hxk⟩,rfl,HE.out,HP.out,.inr ⟨rfl,by rw[← HTE.out];exact HC.out,HB13T.out⟩⟩
             ·have e1:(tr.yA (tr.q8 H xk) == sn)=false:=by rw[beq_eq_false_iff_ne];exact he
              have HE:=qe he;clear he
              gi_wp2
              exact⟨ug HS.out,⟨HS.out.block kB (Nat.lt_of_lt_of_le hBl HBX.out.size),HS.out.block g (Nat.lt_of_lt_of_le hgl13 HBX.out.size)⟩,fun p hp=>(List.mem_append.1 hp).elim (HP.out p) (fun h=>by rw[List.mem_singleton.1 h];exact HE.out),HB13S.out⟩
           case done=>
            rintro D xs X hD hS ⟨hp,hB⟩ hK;have HRT:=qe (show tr.zL H op qs au=(W,0) by
             have h1:tr.frI H sn n= -1:=tr.fr_none _ fun i hi=>by
              have h2:i∈xs.map (·.1):=by rw[hS];exact tr.mem_bk.2 ⟨Nat.zero_le _,by rw[← HN.out];exact hi⟩
              obtain⟨p,hp1,rfl⟩:=List.mem_map.1 h2;exact hp p hp1
             rw[HRS.out,h1,if_neg (by simp)])
            have HBX:=qe hB;have HD:=qe hD;have HK:=qe hK;clear hS hp hB hD hK;obtain⟨-,y4,f4,y5,f5⟩:=zD.out X (HAL.out X HBX.out).2.1;have HY4:=qe y4;have HY5:=qe y5;have x8:=(HAL.out X HBX.out).2.2.2.1;have HF:=qe (yS HRT.out Ke.out Kc.out jk.out.size (HAL.out X HBX.out).1 (HAL.out X HBX.out).2.2.2.2);go_wp2_with fail;exact KA rfl rfl rfl (Nat.le_trans HB113.out.size HD.out) (by rw[Below.heap_setCell _ _ _ _ (show D≠k5 by have:=HD.out;have:=Kc.out.2;have:=um.out.size;omega),Below.heap_setCell _ _ _ _ (show D≠k4 by have:=HD.out;have:=Ke.out.2;have:=um.out.size;omega)];exact HK.out) (Zq HNE.out HY4.out HY5.out).1 (Zq HNE.out HY4.out HY5.out).2 HF.out
           case stop=>
            rintro D c pre X hD hpre ⟨pre0,x,rfl,hx,hp,hc⟩ hK;rw[List.map_append,List.map_singleton]at hpre;obtain⟨hp0,hxl⟩:=tr.bk_last hpre;have hfr:tr.frI H sn n=((x.1:Nat):Int):=tr.fr_at hx _ (by rw[HN.out];exact x.2) fun i h1 h2=>by
             have h3:i∈pre0.map (·.1):=by rw[hp0];exact tr.mem_bk.2 ⟨h1,by rw[← HN.out];exact h2⟩
             obtain⟨p,hp1,rfl⟩:=List.mem_map.1 h3;exact hp p hp1
            rcases hc with⟨rfl,hl,hB,v,c4,c5,ho⟩|⟨rfl,hl,hB⟩
            ·have HRT:=qe (show tr.zL H op qs au=(tr.zF H x.1,0) by
              rw[HRS.out,hfr,Int.toNat_natCast,if_pos ⟨by omega,hl⟩])
             have HF:=qe (uH HRT.out hB (qG ho HB113.out.size));have HD:=qe hD;have HK:=qe hK;have HC4:=qe c4;have HC5:=qe c5;clear hpre hp0 hfr hp hx hl hB ho hD hK c4 c5 HRS;refine(wpIn_wide (n:=9)).2 ?_;go_wp2_with fail;exact KA rfl rfl rfl (Nat.le_trans HB113.out.size HD.out) HK.out HC4.out HC5.out HF.out
            ·have HRT:=qe (show tr.zL H op qs au=(W,0) by
              rw[HRS.out,hfr,Int.toNat_natCast,if_neg (fun h=>hl h.2)])
             have HBX:=qe hB;have HD:=qe hD;have HK:=qe hK;clear hpre hp0 hfr hp hx hl hB hD hK HRS;refine(wpIn_wide (n:=9)).2 ?_;obtain⟨-,y4,f4,y5,f5⟩:=zD.out X (HAL.out X HBX.out).2.1;have HY4:=qe y4;have HY5:=qe y5;have x8:=(HAL.out X HBX.out).2.2.2.1;have HF:=qe (yS HRT.out Ke.out Kc.out jk.out.size (HAL.out X HBX.out).1 (HAL.out X HBX.out).2.2.2.2);go_wp2_with fail;exact KA rfl rfl rfl (Nat.le_trans HB113.out.size HD.out) (by rw[Below.heap_setCell _ _ _ _ (show D≠k5 by have:=HD.out;have:=Kc.out.2;have:=um.out.size;omega),Below.heap_setCell _ _ _ _ (show D≠k4 by have:=HD.out;have:=Ke.out.2;have:=um.out.size;omega)];exact HK.out) (Zq HNE.out HY4.out HY5.out).1 (Zq HNE.out HY4.out HY5.out).2 HF.out
        ·have e10:(r0.typ != 6)=true:=by rw[bne_iff_ne];exact k6
         have HRW0:=qe (show tr.zL H op qs au=([],1) by rw[HQS.out,HAU.out];exact tr.XG HOP.out HC.out HK.out (.inl k6));clear k6;have HRW:=qe (show tr.zL H op qs au=([],1) from HRW0.out);have HY4:=qe y4;have HY5:=qe y5;go_wp2_with fail
         (try simp only[Exit.inBlock,Exit.then])
         exact kT rfl rfl rfl HNE.out HY4.out HY5.out (yS HRW.out Ke.out Kc.out jk.out.size (jk.out.trans (HB6.out.mono jk.out.size)) (World.ownsRow_nil _ _ _ _))
       ·have e9:((au.length:Int) != 1)=true:=by rw[bne_iff_ne];omega
        have HRW0:=qe (show tr.zL H op qs au=([],1) by rw[HQS.out];exact tr.row_auth HOP.out HC.out HK.out hu1);clear hu1;have HRW:=qe (show tr.zL H op qs au=([],1) from HRW0.out);have HY4:=qe y4;have HY5:=qe y5;go_wp2_with fail
        (try simp only[Exit.inBlock,Exit.then])
        exact kT rfl rfl rfl HNE.out HY4.out HY5.out (yS HRW.out Ke.out Kc.out jk.out.size (jk.out.trans (HB6.out.mono jk.out.size)) (World.ownsRow_nil _ _ _ _))
      ·have e8:(q0.typ != 251)=true:=by rw[bne_iff_ne];exact Vr
       have HRW0:=qe (show tr.zL H op qs au=([],5) by rw[HQS.out];exact tr.row_other HOP.out HC.out QJ Vr);clear Vr QJ;have HRW:=qe (show tr.zL H op qs au=([],5) from HRW0.out);have HY4:=qe y4;have HY5:=qe y5;go_wp2_with fail
       (try simp only[Exit.inBlock,Exit.then])
       exact kT rfl rfl rfl HNE.out HY4.out HY5.out (yS HRW.out Ke.out Kc.out jk.out.size (jk.out.trans (HB6.out.mono jk.out.size)) (World.ownsRow_nil _ _ _ _))
   ·have e6:(q0.cls != 1)=true:=by rw[bne_iff_ne];exact kc
    go_upto_region 6 with fail;clear e3;refine ql (by kernel_rfl) (by kernel_rfl) ?_
    repeat (with_reducible refine wpQuiet_step (fun K hK=>?_);go_simp;(try simp only[undef]);first | (with_reducible refine hK _ ?_;clear hK K))
    refine wpQuiet_nil ?_
    (try simp only[show Value.tuple #[]=undef from rfl])
    intro U hU;have hBU:Below w5.heap.size w5 U:=by obtain⟨g,rfl⟩:=hU;exact qB _ g
    clear hU;have HB6:=qe (HB5.out.trans (hBU.mono HB5.out.size));clear hBU k0 k1 k2' e6;clear m0 m1 m2 m3 m4 m5 m6 m7 m8 m9 m10 m11 m12 m13 y2 y4 f4 y5 f5;obtain⟨m0,m1,m2,m3,m4,m5,m6,m7,m8,m9,m10,m11,m12,m13⟩:=(HM.out.below HB6.out).facts;obtain⟨y2,y4,f4,y5,f5⟩:=zD.out _ HB6.out;have HRW:=qe (show tr.zL H op qs au=([],9) from(by rw[HQS.out];exact tr.XF HOP.out (fun hh=>kc hh.1)));have HY4:=qe y4;have HY5:=qe y5;go_wp2_with fail
    (try simp only[Exit.inBlock,Exit.then])
    exact kT rfl rfl rfl HNE.out HY4.out HY5.out (yS HRW.out Ke.out Kc.out jk.out.size (jk.out.trans (HB6.out.mono jk.out.size)) (World.ownsRow_nil _ _ _ _))
  ·have e3:(op != 0)=true:=by rw[bne_iff_ne];exact ho
   have HRW:=qe (show tr.zL H op qs au=([],4) from(by rw[HQS.out];exact tr.row_op ho));have HY4:=qe y4;have HY5:=qe y5;go_wp2_with fail
   (try simp only[Exit.inBlock,Exit.then])
   exact kT rfl rfl rfl HNE.out HY4.out HY5.out (yS HRW.out Ke.out Kc.out jk.out.size (jk.out.trans (HB5.out.mono jk.out.size)) (World.ownsRow_nil _ _ _ _))
 ·have e4:((qs.length:Int) != 1)=true:=by rw[bne_iff_ne];omega
  have HRW:=qe (show tr.zL H op qs au=([],1) from(tr.row_many hq1));have HY4:=qe y4;have HY5:=qe y5;go_wp2_with fail
  (try simp only[Exit.inBlock,Exit.then])
  exact kT rfl rfl rfl HNE.out HY4.out HY5.out (yS HRW.out Ke.out Kc.out jk.out.size (jk.out.trans (HRF.out.mono jk.out.size)) (World.ownsRow_nil _ _ _ _))
end Go.Proofs.YtpcmilhjpmlbpaaGreatDoor
