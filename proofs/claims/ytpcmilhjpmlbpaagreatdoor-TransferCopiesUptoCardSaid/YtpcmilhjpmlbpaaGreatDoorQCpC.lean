import Derived.Test.YtpcmilhjpmlbpaaGreatDoorQCpB
import Derived.Test.YtpcmilhjpmlbpaaGreatDoorQTrJ
import Derived.Test.YtpcmilhjpmlbpaaGreatDoorQCpR
import Derived.RangeFuncFrom
import Derived.Stop.RegionWithIn
set_option maxRecDepth 100000
set_option maxHeartbeats 8000000
namespace Go.Proofs.YtpcmilhjpmlbpaaGreatDoor
open Go.RowKit Go.Shelf nm od
attribute [local go_sem] Oper.semAt_some
theorem bodyM_ret {F:Fence}{n:Nat}{P:Program}{fn:Func}{R:Ending→World→Prop}{a:Act}{w:World}{v:Value}(hr:(results fn a.tmps).run P w= .ok v w)(hd:a.defers= [])(hR:R (.returned v) w):bodyPostM F n P fn R .ret a w:=by
 show LeavesInM F n P fn a.tmps R a.defers .returning w
 rw[hd]
 exact⟨v,hr,hR⟩
theorem row_res {tmps:Array Value}{w:World}{b4 b5:Nat}{v:Value}{c:Int}(h4:tmps.getD 4 undef= .pointer (some ⟨b4,0,none⟩))(h5:tmps.getD 5 undef= .pointer (some ⟨b5,0,none⟩))
 (c4:w.cell? ⟨b4,0,none⟩=some v) (c5:w.cell? ⟨b5,0,none⟩=some (.int .i64 c)):(results Tryz.f35 tmps).run Tryz.prog w= .ok (.tuple #[v,.int .i64 c]) w:=by
 have h4':tmps[4]?.getD undef= .pointer (some ⟨b4,0,none⟩):=by simpa using h4
 have h5':tmps[5]?.getD undef= .pointer (some ⟨b5,0,none⟩):=by simpa using h5
 simp[results,Tryz.f35,go_sem,h4',h5',c4,c5]
theorem QI {X:World}{b4 b5:Nat}{u4 u5 v c:Value}(hne:b4≠b5)(h4:X.cell? ⟨b4,0,none⟩=some u4)(h5:X.cell? ⟨b5,0,none⟩=some u5):
 ((X.setCell ⟨b4,0,none⟩ v).setCell ⟨b5,0,none⟩ c).cell? ⟨b4,0,none⟩=some v∧((X.setCell ⟨b4,0,none⟩ v).setCell ⟨b5,0,none⟩ c).cell? ⟨b5,0,none⟩=some c:=by
 have e1:(X.setCell ⟨b4,0,none⟩ v).cell? ⟨b4,0,none⟩=some v:=World.cell?_setCell_same' _ _ _ (by rw[h4];rfl)
 have e2:(X.setCell ⟨b4,0,none⟩ v).cell? ⟨b5,0,none⟩=some u5:=(World.cell?_of_block (w:=X) (a:=⟨b5,0,none⟩) (Below.heap_setCell _ _ _ _ (fun e=>hne e.symm))).trans h5
 exact⟨(World.cell?_of_block (w:=X.setCell ⟨b4,0,none⟩ v) (a:=⟨b4,0,none⟩) (Below.heap_setCell _ _ _ _ hne)).trans e1,World.cell?_setCell_same' _ _ _ (by rw[e2];rfl)⟩
theorem j4 {n:Nat}{R:Ending→World→Prop}{a:Act}{X:World}{b4 b5:Nat}{u4 u5 v:Value}{c:Int}(h4:a.tmps.getD 4 undef= .pointer (some ⟨b4,0,none⟩))(h5:a.tmps.getD 5 undef= .pointer (some ⟨b5,0,none⟩))(hd:a.defers= [])(hne:b4≠b5)
 (x4:X.cell? ⟨b4,0,none⟩=some u4) (x5:X.cell? ⟨b5,0,none⟩=some u5) (hR:R (.returned (.tuple #[v,.int .i64 c])) ((X.setCell ⟨b4,0,none⟩ v).setCell ⟨b5,0,none⟩ (.int .i64 c))):
 bodyPostM Fence.wide n Tryz.prog Tryz.f35 R .ret a ((X.setCell ⟨b4,0,none⟩ v).setCell ⟨b5,0,none⟩ (.int .i64 c)):=
 bodyM_ret (row_res h4 h5 (QI hne x4 x5).1 (QI hne x4 x5).2) hd hR
theorem yG {R:List Rec×Int}{L:List Rec}{c:Int}{v:Value}{w w4 X:World}{b4 b5:Nat}(h:R=(L,c))(hb4:w.heap.size≤b4∧b4<w4.heap.size)(hb5:w.heap.size≤b5∧b5<w4.heap.size)(hs:w.heap.size≤w4.heap.size)(hB:Below w.heap.size w X)
 (ho:X.ownsRow w4.heap.size 80 5 v L.length (qx L)):Y8 R w (.returned (.tuple #[v,.int .i64 c])) ((X.setCell ⟨b4,0,none⟩ v).setCell ⟨b5,0,none⟩ (.int .i64 c)):=by
 subst h
 refine⟨_,rfl,(hB.setCell (p:=⟨b4,0,none⟩) hb4.1 _).setCell (p:=⟨b5,0,none⟩) hb5.1 _,qK (qi ho fun b hb=>?_) hs⟩
 have h1:=(ho.lt b hb).1
 rw[Below.heap_setCell _ _ _ _ (show b≠b5 by omega),Below.heap_setCell _ _ _ _ (show b≠b4 by omega)]
theorem Xd {A B:World}{row:Option Nat}{base:Nat}{e:TypeId}{size:Nat}{v:Value}{n:Nat}{xs:List Value}(h:A.ownsRow base e size v n xs)(hg:A.grownBy B row)(hr:∀r,row=some r→∃o:Obj,A.heap[r]? =some o∧o.isCells=false):B.ownsRow base e size v n xs:=
 qi h fun b hb=>by
  rcases h.2 with⟨rfl,_⟩|⟨g,cap,cur,rfl,h1,h2,_⟩
  ·cases hb
  ·simp only[Value.ownBlock,Option.some.injEq]at hb
   subst hb
   exact grownBy_keeps_cells hg hr h2 rfl
def RowEx (w w13:World)(k4 k5:Nat)(zs:List Nat)(H:List tr.Zn)(sn:Int)(m:Nat)(c:Code)(pre:List { k:Nat // k<zs.length})(X:World):Prop:=
 ∃pre0 x,pre=pre0 ++ [x]∧tr.zH (tr.qZ H x.1)=sn∧((∀p∈pre0,tr.zH (tr.qZ H p.1)≠sn)∧
  ((c= .ret∧(tr.yH H x.1).length≤m∧Below w.heap.size w X∧∃v,X.cell? ⟨k4,0,none⟩=some v∧X.cell? ⟨k5,0,none⟩=some (.int .i64 0)∧X.ownsRow w13.heap.size 80 5 v (tr.yH H x.1).length (qx (tr.yH H x.1)))∨
    (c= .exit 1∧¬(tr.yH H x.1).length≤m∧Below w13.heap.size w13 X)))
theorem rowEx_own {w w13:World}{k4 k5:Nat}{zs:List Nat}{H:List tr.Zn}{sn:Int}{m:Nat}{c:Code}(hs:w.heap.size≤w13.heap.size):OwnFrom w13.heap.size (RowEx w w13 k4 k5 zs H sn m c):=by
 rintro s A B row ⟨pre0,x,h1,h2,h3,h4⟩ hg hr
 refine⟨pre0,x,h1,h2,h3,?_⟩
 rcases h4 with⟨hc,hl,hB,v,c4,c5,ho⟩|⟨hc,hl,hB⟩
 ·exact .inl ⟨hc,hl,ownFrom_below (β:=Unit) (Nat.le_refl _) hs () A B row hB hg hr,v,cell_kept c4 hg (fun r e=>(hr r e).2),cell_kept c5 hg (fun r e=>(hr r e).2),Xd ho hg fun r e=>(hr r e).2⟩
 ·exact .inr ⟨hc,hl,ownFrom_below (β:=Unit) (Nat.le_refl _) (Nat.le_refl _) () A B row hB hg hr⟩
namespace tr
theorem fr_none {H:List Zn}{s:Int}:∀k,(∀i,i<k→zH (qZ H i)≠s)→frI H s k= -1
 | 0,_=>rfl
 | k+1,h=>by
   unfold frI
   rw[if_neg (h k (by omega))]
   exact fr_none k fun i hi=>h i (by omega)
theorem fr_at {H:List Zn}{s:Int}{f:Nat}(h1:zH (qZ H f)=s):∀k,f<k→(∀i,f<i→i<k→zH (qZ H i)≠s)→frI H s k=(f:Int)
 | 0,h,_=>absurd h (Nat.not_lt_zero _)
 | k+1,h,hn=>by
   unfold frI
   by_cases e:f=k
   ·subst e
    rw[if_pos h1]
   ·rw[if_neg (hn k (by omega) (by omega))]
    exact fr_at h1 k (by omega) fun i h2 h3=>hn i h2 (by omega)
end tr
theorem JD {n D:Nat}{R:List Rec×Int}{w:World}{a:Act}{X:World}{b4 b5:Nat}{v:Value}{c:Int}(h4:a.tmps.getD 4 undef= .pointer (some ⟨b4,0,none⟩))(h5:a.tmps.getD 5 undef= .pointer (some ⟨b5,0,none⟩))(hd:a.defers= [{ target:=.collected D,args:=#[]}])(hwD:w.heap.size≤D)(hK:X.heap[D]? =some (.deferred (some [])))
 (c4:X.cell? ⟨b4,0,none⟩=some v) (c5:X.cell? ⟨b5,0,none⟩=some (.int .i64 c)) (hR:Y8 R w (.returned (.tuple #[v,.int .i64 c])) X):bodyPostM Fence.wide n Tryz.prog Tryz.f35 (fun e w'=>Y8 R w e w') .ret a X:=by
 show LeavesInM Fence.wide n Tryz.prog _ a.tmps _ a.defers .returning X
 rw[hd]
 have hg:=grownBy_putObj' X D (.deferred none)
 have hr:∀r,some D=some r→∃o:Obj,X.heap[r]? =some o∧o.isCells=false:=fun r e=>by cases e;exact⟨_,hK,rfl⟩
 refine⟨by simp,.inl ⟨_,_,rfl,run_takeDeferred hK,?_⟩⟩
 obtain⟨v',he,hB,ho⟩:=hR
 simp only[Ending.returned.injEq,Value.tuple.injEq,Array.mk.injEq,List.cons.injEq,and_true,Value.int.injEq,true_and]at he
 obtain⟨rfl,rfl⟩:=he
 refine⟨_,row_res h4 h5 (cell_kept c4 hg hr) (cell_kept c5 hg hr),_,rfl,hB.trans (belowK_b (w:=w) (Nat.le_refl _) X D _ _ hwD hK rfl rfl),Xd ho hg hr⟩
theorem hrow_any (base h:Nat)(zs:List Nat)(H:List tr.Zn)(h0:0<zs.length)(h8:zs.length≤8)(hi:Int)(rs:Bool)(op:Int)(b3 b4 b5 b6 b7 b8:Bool)(rc:Int)(qs:List Qn)(an au ad:List Rec)(hmb:wi.jX ⟨hi,rs,op,b3,b4,b5,b6,b7,b8,rc⟩ qs an au ad=true)
 (q a u d:Value) (w:World) (hh:vH w base h zs) (hz:Jt w zs H) (rq:jL w q qs) (ra:qz w a an) (ru:qz w u au) (rd:qz w d ad):
 Calls Tryz.prog 35 #[.pointer (some ⟨h,0,none⟩),uj ⟨hi,rs,op,b3,b4,b5,b6,b7,b8,rc⟩ q a u d] w fun e w'=>Y8 (tr.yE H op qs au) w e w':=by
 obtain⟨w1,hw1⟩:∃X,X=w.alloc (.cells #[.pointer (some ⟨h,0,none⟩)] 24):=⟨_,rfl⟩
 obtain⟨w2,hw2⟩:∃X,X=w1.alloc (.cells (kK ⟨hi,rs,op,b3,b4,b5,b6,b7,b8,rc⟩ q a u d).toArray 33):=⟨_,rfl⟩
 obtain⟨w3,hw3⟩:∃X,X=w2.alloc (.cells #[.slice none 0 0] 31):=⟨_,rfl⟩
 obtain⟨w4,hw4⟩:∃X,X=w3.alloc (.cells #[.int .i64 0] 3):=⟨_,rfl⟩
 have hB1:Below w.heap.size w w1:=by rw[hw1];exact(Below.refl _ _).alloc (Nat.le_refl _) _
 obtain⟨hB2,hs2,hm2⟩:=jD hw2
 have hB3:Below w2.heap.size w2 w3:=by rw[hw3];exact(Below.refl _ _).alloc (Nat.le_refl _) _
 have hB4:Below w3.heap.size w3 w4:=by rw[hw4];exact(Below.refl _ _).alloc (Nat.le_refl _) _
 have hs1:w1.heap.size=w.heap.size+1:=by rw[hw1];simp
 have hs3:w3.heap.size=w2.heap.size+1:=by rw[hw3];simp
 have hs4:w4.heap.size=w3.heap.size+1:=by rw[hw4];simp
 obtain⟨k2,hk2⟩:∃b,b=w.heap.size:=⟨_,rfl⟩
 obtain⟨km,hkm⟩:∃b,b=w.heap.size+1:=⟨_,rfl⟩
 obtain⟨k4,hk4⟩:∃b,b=w.heap.size+1+1:=⟨_,rfl⟩
 obtain⟨k5,hk5⟩:∃b,b=w.heap.size+1+1+1:=⟨_,rfl⟩
 have hB24:Below w2.heap.size w2 w4:=hB3.trans (hB4.mono (by omega))
 have hB14:Below w1.heap.size w1 w4:=hB2.trans (hB24.mono (by omega))
 have hB04:Below w.heap.size w w4:=hB1.trans (hB14.mono (by omega))
 rw[hs1,← hkm]at hm2
 have x2:w4.cell? ⟨k2,0,none⟩=some (.pointer (some ⟨h,0,none⟩)):=(hB14.cell (p:=⟨k2,0,none⟩) (by show k2<_;omega)).trans (by rw[hw1,hk2];exact(zq w _ _).1)
 have n4:w3.heap[k4]? =some (.cells #[.slice none 0 0] 31 (0,0)):=by rw[hw3,show k4=w2.heap.size by omega];exact qB rfl
 have n5:w4.heap[k5]? =some (.cells #[.int .i64 0] 3 (0,0)):=by rw[hw4,show k5=w3.heap.size by omega];exact qB rfl
 have n4':=(hB4.block k4 (qo n4)).trans n4
 have zJ:=Lib.hid (show ∀X,Below w4.heap.size w4 X→X.cell? ⟨k2,0,none⟩=some (.pointer (some ⟨h,0,none⟩))∧X.cell? ⟨k4,0,none⟩=some (.slice none 0 0)∧X.frozen? ⟨k4,0,none⟩=false∧X.cell? ⟨k5,0,none⟩=some (.int .i64 0)∧X.frozen? ⟨k5,0,none⟩=false from fun X hX=>
  ⟨(hX.cell (p:=⟨k2,0,none⟩) (by show k2<_;omega)).trans x2,by rw[qg ((hX.block k4 (qo n4')).trans n4')];rfl,qD ((hX.block k4 (qo n4')).trans n4') 0,by rw[qg ((hX.block k5 (qo n5)).trans n5)];rfl,qD ((hX.block k5 (qo n5)).trans n5) 0⟩)
 have hW4:w4=(((w.alloc (.cells #[.pointer (some ⟨h,0,none⟩)] 24)).alloc (.cells (kK ⟨hi,rs,op,b3,b4,b5,b6,b7,b8,rc⟩ q a u d).toArray 33)).alloc (.cells #[.slice none 0 0] 31)).alloc (.cells #[.int .i64 0] 3):=by rw[hw4,hw3,hw2,hw1]
 have HM:=Lib.hid (show qA w4 km _ _ _ _ _ from hm2.below hB24)
 have Jh:=Lib.hid (show w.heap.size≤k4∧k4<w4.heap.size by omega);have Jg:=Lib.hid (show w.heap.size≤k5∧k5<w4.heap.size by omega)
 have hne:k4≠k5:=by omega
 have hne':k5≠k4:=by omega
 have HNE:=Lib.hid hne
 have HK2:=Lib.hid hk2;have HKM:=Lib.hid hkm;have HK4:=Lib.hid hk4;have HK5:=Lib.hid hk5;have HW4:=Lib.hid hW4;have jf:=Lib.hid hB04
 clear hw1 hw2 hw3 hw4 hB1 hB2 hB3 hB4 hB24 hB14 hB04 hs1 hs2 hs3 hs4 hm2 x2 n4 n5 n4' hk2 hkm hk4 hk5 hW4
 obtain⟨n,hn⟩:∃n,n=zs.length:=⟨_,rfl⟩
 obtain⟨n1,hn1⟩:∃n1,n1=n-1:=⟨_,rfl⟩
 have hlen:=hz.1
 have hOK:∀i (hi:i<zs.length),tr.Ok (tr.qZ H i)∧∃tz,jc w tz zs[i] (tr.qZ H i).ap (tr.qZ H i).l:=fun i hi=>by
  have hiH:i<H.length:=by omega
  rw[tr.ve hiH]
  exact hz.2 i hi hiH
 have hlast:tr.qM H=tr.qZ H n1:=by unfold tr.qM;congr 1;omega
 obtain⟨Z,hZ⟩:∃Z,Z=tr.qZ H n1:=⟨_,rfl⟩
 rw[← hZ]at hlast
 obtain⟨z0,hz0⟩:∃z,z=zs[n1]'(by omega):=⟨_,rfl⟩
 obtain⟨ok0,tz,zf0⟩:=hOK n1 (by omega)
 rw[← hZ,← hz0]at zf0
 rw[← hZ]at ok0
 obtain⟨mq,mu⟩:=tr.msg_facts hmb
 have HZN:=Lib.hid (show ∀X,Below w.heap.size w X→Calls Tryz.prog 31 #[.pointer (some ⟨h,0,none⟩)] X fun e w'=>e= .returned (qX z0)∧Below X.heap.size X w' from fun X hX=>by
  have h1:=Qf base h zs (by omega) (by omega) X (hh.below hX)
  have e:zs[zs.length-1]'(by omega)=z0:=by rw[hz0];congr 1;omega
  rw[e]at h1
  exact h1)
 have HAP:=Lib.hid (show ∀X,Below w.heap.size w X→Calls Tryz.prog 24 #[qX z0] X fun e w'=>e= .returned (.string Z.ap)∧Below X.heap.size X w' from fun X hX=>by
  obtain⟨_,_,_,_,_,_,_,h2,_⟩:=(zf0.kept hX).v.parts
  refine(vw z0 Z.ap _ _ _ X h2).mono ?_
  rintro e w' ⟨rfl,rfl⟩
  exact⟨rfl,Below.refl _ _⟩)
 have HSR:=Lib.hid (show ∀X,Below w.heap.size w X→Calls Tryz.prog 61 #[qX z0] X fun e w'=>e= .returned (.int .i64 (tr.zH Z))∧Below X.heap.size X w' from fun X hX=>YX tz z0 Z ok0 X (zf0.kept hX))
 have HSA:=Lib.hid (show ∀i (hi:i<zs.length),∀X,Below w.heap.size w X→Calls Tryz.prog 61 #[qX zs[i]] X fun e w'=>e= .returned (.int .i64 (tr.zH (tr.qZ H i)))∧Below X.heap.size X w' from fun i hi X hX=>by
  obtain⟨o1,t1,z1⟩:=hOK i hi
  exact YX t1 zs[i] _ o1 X (z1.kept hX))
 have HWH:=Lib.hid (show ∀X,Below w.heap.size w X→Calls Tryz.prog 67 #[qX z0] X fun e w'=>jV (tr.yw Z) X e w' from fun X hX=>twhole_any tz z0 Z ok0 X (zf0.kept hX))
 have HST:=Lib.hid (show ∀k,k<zs.length→∀X,Below w.heap.size w X→Calls Tryz.prog 70 #[.pointer (some ⟨h,0,none⟩),.int .i64 (k:Int)] X fun e w'=>jV (tr.yH H k) X e w' from fun k hk X hX=>steps_any base h zs H h8 k hk X (hh.below hX) (hz.below hX))
 have HSO:=Lib.hid (show ∀X,Below w.heap.size w X→Calls Tryz.prog 48 #[qX z0] X fun e w'=>e= .returned (yA (tr.q9 Z))∧Below X.heap.size X w' from fun X hX=>ZH tz z0 Z ok0 X (zf0.kept hX))
 have HH:=Lib.hid hh
 have ZB:=Lib.hid hlast;have HN:=Lib.hid hn;have H8:=Lib.hid h8;have H00:=Lib.hid h0;have HLN:=Lib.hid hlen
 have HQ:=Lib.hid (rq.below jf.out);have HU:=Lib.hid (ru.below jf.out);have HMQ:=Lib.hid mq;have HMU:=Lib.hid mu
 obtain⟨qa,qc,rfl,-⟩:=id rq
 obtain⟨aa,ac,rfl,-⟩:=id ra
 obtain⟨ua,uc,rfl,-⟩:=id ru
 obtain⟨da,dc,rfl,-⟩:=id rd
 clear hn hn1 hlen hOK hlast hZ hz0 ok0 zf0 hh hz rq ra ru rd mq mu hmb h0 h8
 obtain⟨m0,m1,m2,m3,m4,m5,m6,m7,m8,m9,m10,m11,m12,m13⟩:=(HM.out.below (Below.refl _ _)).facts
 obtain⟨y2,y4,f4,y5,f5⟩:=zJ.out _ (Below.refl _ _)
 refine(callsIn_wide (n:=9)).1 ?_
 refine callsIn_of_wp_marks Tryz.func35 rfl trivial ?_ rfl
 refine wpIn_wide.2 ?_
 simp only[Tryz.ntmps35,List.size_toArray,List.length_cons,List.length_nil,Nat.reduceAdd,Nat.reduceSub,Array.replicate_succ,Array.replicate_zero,List.push_toArray,List.append_toArray,List.nil_append,List.cons_append]
 go_upto_region 1 with fail
 rw[← HK5.out,← HK4.out,← HKM.out,← HK2.out,← HW4.out]
 have HRF:=Lib.hid (Below.refl w4.heap.size w4)
 by_cases hq1:qs.length=1
 ·have e4:((qs.length:Int) != 1)=false:=by rw[bne_eq_false_iff_eq];omega
  obtain⟨_,_,hv,-,hr0⟩:=id HQ.out
  simp only[Value.slice.injEq,true_and]at hv
  obtain⟨rfl,rfl⟩:=hv
  obtain⟨qb,V3,rfl,hqb,c0,c1,c2⟩:=hr0 0 (by omega)
  obtain⟨q0,hq0⟩:∃q0,q0=qs[0]'(by omega):=⟨_,rfl⟩
  rw[← hq0]at c0 c1 c2
  simp only[Nat.zero_mul,Nat.add_zero]at c0 c1 c2
  have hqs:qs= [q0]:=by
   obtain⟨y,hy⟩:=List.length_eq_one_iff.1 hq1
   have:q0=y:=by rw[hq0];simp[hy]
   rw[this,hy]
  have hl0:0<qs.length:=by omega
  obtain⟨w5,hw5⟩:∃W,W=w4.alloc (.cells (qnC q0).toArray 78):=⟨_,rfl⟩
  obtain⟨hB5,hs5,hx5⟩:=qn_new w4 w5 q0 hw5
  obtain⟨bq,hbq⟩:∃b,b=w4.heap.size:=⟨_,rfl⟩
  rw[← hbq]at hx5
  have HQS:=Lib.hid hqs;have HW5:=Lib.hid hw5;have HBQ:=Lib.hid hbq;have HX5:=Lib.hid hx5;have HB5:=Lib.hid hB5;have HBQL:=Lib.hid (show bq<w5.heap.size by omega)
  clear hr0 hqb hq0 hqs hq1 hw5 hB5 hs5 hbq hx5
  go_upto_region 4 with fail
  rw[← HW5.out,← HBQ.out]
  clear c0 c1 c2 hl0 e4
  clear m0 m1 m2 m3 m4 m5 m6 m7 m8 m9 m10 m11 m12 m13 y2 y4 f4 y5 f5
  obtain⟨m0,m1,m2,m3,m4,m5,m6,m7,m8,m9,m10,m11,m12,m13⟩:=(HM.out.below HB5.out).facts
  obtain⟨y2,y4,f4,y5,f5⟩:=zJ.out _ HB5.out
  have JY:=Lib.hid (jf.out.trans (HB5.out.mono jf.out.size))
  obtain⟨x0,x1,x2⟩:=id HX5.out
  simp only[Nat.zero_add]at x1 x2
  by_cases ho:op=0
  ·have e3:(op != 0)=false:=by rw[bne_eq_false_iff_eq];exact ho
   have HOP:=Lib.hid ho
   clear ho
   obtain⟨ib,hib⟩:∃ib,ib=qF q0.name Z.ap:=⟨_,rfl⟩
   have CE:Hid (∀p,Calls Tryz.prog 62 #[.string q0.name,.string Z.ap] (gw w5 p) fun e w''=>e= .returned (.bool ib)∧∃p',w''=gw w5 p'):=Lib.hid fun p=>by rw[hib];exact qU (Qh q0.name Z.ap _)
   have CZ:Hid (∀p,Calls Tryz.prog 31 #[.pointer (some ⟨h,0,none⟩)] (gw w5 p) fun e w''=>e= .returned (qX z0)∧∃p',w''=gw w5 p'):=Lib.hid fun p=>qU (HZN.out _ (JY.out.trans ((qC w5 p).mono JY.out.size)))
   have CA:Hid (∀p,Calls Tryz.prog 24 #[qX z0] (gw w5 p) fun e w''=>e= .returned (.string Z.ap)∧∃p',w''=gw w5 p'):=Lib.hid fun p=>qU (HAP.out _ (JY.out.trans ((qC w5 p).mono JY.out.size)))
   have HIB:=Lib.hid hib
   have k0:=qh y2;have k1:=qh x0;have k2':=qh x2
   clear hib
   by_cases kc:q0.cls=1
   ·have e6:(q0.cls != 1)=false:=by rw[bne_eq_false_iff_eq];exact kc
    go_upto_region 6 with fail
    clear e3
    refine ql (by kernel_rfl) (by kernel_rfl) ?_
    repeat (with_reducible refine wpQuiet_step (fun K hK=>?_);go_simp;(try simp only[undef]);first | (with_reducible refine hK _ ?_;clear hK K) | (apply Exists.intro;refine⟨fun _=>?_,hK _ ?_⟩;(first | (go_at_call 31;with_reducible exact CZ.out _) | (go_at_call 24;with_reducible exact CA.out _) | (go_at_call 62;with_reducible exact CE.out _));clear hK K) | (with_reducible refine⟨fun _ h=>(by cases h),?_⟩;with_reducible refine hK _ ?_;clear hK K))
    refine wpQuiet_nil ?_
    (try simp only[show Value.tuple #[]=undef from rfl])
    intro U hU
    have hBU:Below w5.heap.size w5 U:=by obtain⟨g,rfl⟩:=hU;exact qC _ g
    clear hU
    have HB6:=Lib.hid (HB5.out.trans (hBU.mono HB5.out.size))
    have HU5:=Lib.hid hBU
    clear hBU k0 k1 k2' e6
    clear m0 m1 m2 m3 m4 m5 m6 m7 m8 m9 m10 m11 m12 m13 y2 y4 f4 y5 f5
    obtain⟨m0,m1,m2,m3,m4,m5,m6,m7,m8,m9,m10,m11,m12,m13⟩:=(HM.out.below HB6.out).facts
    obtain⟨y2,y4,f4,y5,f5⟩:=zJ.out _ HB6.out
    cases ib
    ·have HRW:=Lib.hid (show tr.yE H op qs au=([],9) from(by rw[HQS.out];exact tr.row_not HOP.out (by rw[ZB.out,← HIB.out];simp)))
     have HY4:=Lib.hid y4;have HY5:=Lib.hid y5
     go_wp2_with fail
     (try simp only[Exit.inBlock,Exit.then])
     exact j4 rfl rfl rfl HNE.out HY4.out HY5.out (yG HRW.out Jh.out Jg.out jf.out.size (jf.out.trans (HB6.out.mono jf.out.size)) (World.ownsRow_nil _ _ _ _))
    ·have HC:=Lib.hid (show q0.cls=1∧qF q0.name (tr.qM H).ap=true from⟨kc,by rw[ZB.out];exact HIB.out.symm⟩)
     have HB16:=Lib.hid (jf.out.trans (HB6.out.mono jf.out.size))
     clear kc
     obtain⟨x0,x1,x2⟩:=HX5.out.keep (HU5.out.block bq HBQL.out)
     simp only[Nat.zero_add]at x1 x2
     by_cases Ja:q0.typ=252
     ·have e7:(q0.typ == 252)=true:=by rw[beq_iff_eq];exact Ja
      have HRW:=Lib.hid (show tr.yE H op qs au=(tr.yw Z,0) by rw[HQS.out,tr.row_whole HOP.out HC.out Ja,ZB.out])
      clear Ja
      go_wp2_with fail
      refine(HZN.out U HB16.out).mono ?_
      rintro e w7 ⟨rfl,hB7⟩
      have HB7:=Lib.hid (HB6.out.trans (hB7.mono HB6.out.size))
      have HB17:=Lib.hid (HB16.out.trans (hB7.mono HB16.out.size))
      clear hB7
      go_wp2_with fail
      refine(HWH.out w7 HB17.out).mono ?_
      rintro e w8 ⟨v8,rfl,hBw8,hOw8⟩
      obtain⟨aw8,cw8,rfl,-⟩:=qm hOw8
      have HOw8:=Lib.hid (qK hOw8 (Below.size HB7.out));have HBw8:=Lib.hid (Below.trans HB7.out (hBw8.mono (Below.size HB7.out)))
      clear hOw8 hBw8
      clear m0 m1 m2 m3 m4 m5 m6 m7 m8 m9 m10 m11 m12 m13 y2 y4 f4 y5 f5
      obtain⟨m0,m1,m2,m3,m4,m5,m6,m7,m8,m9,m10,m11,m12,m13⟩:=(HM.out.below HBw8.out).facts
      obtain⟨y2,y4,f4,y5,f5⟩:=zJ.out _ HBw8.out
      have HY4:=Lib.hid y4;have HY5:=Lib.hid y5
      go_wp2_with fail
      (try simp only[Exit.inBlock,Exit.then])
      exact j4 rfl rfl rfl HNE.out HY4.out HY5.out (yG HRW.out Jh.out Jg.out jf.out.size (jf.out.trans (HBw8.out.mono jf.out.size)) HOw8.out)
     ·have e7:(q0.typ == 252)=false:=by rw[beq_eq_false_iff_ne];exact Ja
      by_cases k251:q0.typ=251
      ·have e8:(q0.typ != 251)=false:=by rw[bne_eq_false_iff_eq];exact k251
       have HK:=Lib.hid k251
       clear Ja k251
       by_cases hu1:au.length=1
       ·have e9:((au.length:Int) != 1)=false:=by rw[bne_eq_false_iff_eq];omega
        obtain⟨_,_,hv,-,hr0⟩:=HU.out.below HB6.out
        simp only[Value.slice.injEq,true_and]at hv
        obtain⟨rfl,rfl⟩:=hv
        obtain⟨ub,uoff,rfl,hub,c0,c1,c2,c3,c4⟩:=hr0 0 (by omega)
        obtain⟨r0,hr0'⟩:∃r0,r0=au[0]'(by omega):=⟨_,rfl⟩
        rw[← hr0']at c0 c1 c2 c3 c4
        simp only[Nat.zero_mul,Nat.add_zero]at c0 c1 c2 c3 c4
        have hau:au= [r0]:=by
         obtain⟨y,hy⟩:=List.length_eq_one_iff.1 hu1
         have:r0=y:=by rw[hr0'];simp[hy]
         rw[this,hy]
        have hl0:0<au.length:=by omega
        have HAU:=Lib.hid hau
        clear hr0 hub hr0' hau hu1
        by_cases k6:r0.typ=6
        ·have e10:(r0.typ != 6)=false:=by rw[bne_eq_false_iff_eq];exact k6
         by_cases kd:r0.data.size=0
         ·have e11:=yP kd
          have HRW0:=Lib.hid (show tr.yE H op qs au=([],1) by rw[HQS.out,HAU.out];exact tr.row_bad HOP.out HC.out HK.out (.inr kd))
          clear kd k6
          have HRW:=Lib.hid (show tr.yE H op qs au=([],1) from HRW0.out)
          have HY4:=Lib.hid y4;have HY5:=Lib.hid y5
          go_wp2_with fail
          (try simp only[Exit.inBlock,Exit.then])
          exact j4 rfl rfl rfl HNE.out HY4.out HY5.out (yG HRW.out Jh.out Jg.out jf.out.size (jf.out.trans (HB6.out.mono jf.out.size)) (World.ownsRow_nil _ _ _ _))
         ·have e11:=jh kd
          have HDS:=Lib.hid ((HMU.out r0 (by rw[HAU.out];simp)).2 k6 kd)
          have HRW:=Lib.hid (show tr.yE H op qs au=tr.K7 H (up.Yb r0.data) by rw[HQS.out,HAU.out];exact tr.row_step HOP.out HC.out HK.out k6 kd)
          clear kd k6
          go_upto_region 14 with fail
          clear e7 e8 e9 e10 e11 x0 x1 x2
          obtain⟨sn,hsn⟩:∃s,s=up.Yb r0.data:=⟨_,rfl⟩
          have HSN:=Lib.hid (UC r0 HDS.out.1 (by have:=HDS.out.2;omega) U)
          rw[← hsn]at HSN HRW
          clear hsn
          go_wp2_with fail
          refine HSN.out.mono ?_
          rintro e w7 ⟨rfl,hB7⟩
          have HB7:=Lib.hid (HB6.out.trans (hB7.mono HB6.out.size))
          have HB17:=Lib.hid (HB16.out.trans (hB7.mono HB16.out.size))
          clear hB7 c0 c1 c2 c3 c4 hl0
          clear m0 m1 m2 m3 m4 m5 m6 m7 m8 m9 m10 m11 m12 m13 y2 y4 f4 y5 f5
          obtain⟨w8,hw8⟩:∃X,X=w7.alloc (.cells #[.int .i64 sn] 3):=⟨_,rfl⟩
          obtain⟨k7,hk7⟩:∃b,b=w7.heap.size:=⟨_,rfl⟩
          have hB78:Below w7.heap.size w7 w8:=by rw[hw8];exact(Below.refl _ _).alloc (Nat.le_refl _) _
          have hn7:w8.heap[k7]? =some (.cells #[.int .i64 sn] 3 (0,0)):=by rw[hw8,hk7];exact qB rfl
          have HC7:=Lib.hid (show ∀X,Below w8.heap.size w8 X→X.cell? ⟨k7,0,none⟩=some (.int .i64 sn) from fun X hX=>by rw[qg ((hX.block k7 (qo hn7)).trans hn7)];rfl)
          have HB8:=Lib.hid (HB7.out.trans (hB78.mono HB7.out.size))
          have HB18:=Lib.hid (HB17.out.trans (hB78.mono HB17.out.size))
          have HW8:=Lib.hid hw8;have HK7:=Lib.hid hk7
          clear hw8 hk7 hB78 hn7
          go_upto_region 15 with fail
          rw[← HW8.out,← HK7.out]
          obtain⟨m0,m1,m2,m3,m4,m5,m6,m7,m8,m9,m10,m11,m12,m13⟩:=(HM.out.below HB8.out).facts
          obtain⟨y2,y4,f4,y5,f5⟩:=zJ.out _ HB8.out
          have x7:=HC7.out w8 (Below.refl _ _)
          obtain⟨nb,hnb⟩:∃b,b=tr.zy (tr.zH Z) sn:=⟨_,rfl⟩
          have CZ:Hid (∀p,Calls Tryz.prog 31 #[.pointer (some ⟨h,0,none⟩)] (gw w8 p) fun e w''=>e= .returned (qX z0)∧∃p',w''=gw w8 p'):=Lib.hid fun p=>qU (HZN.out _ (HB18.out.trans ((qC w8 p).mono HB18.out.size)))
          have CS:Hid (∀p,Calls Tryz.prog 61 #[qX z0] (gw w8 p) fun e w''=>e= .returned (.int .i64 (tr.zH Z))∧∃p',w''=gw w8 p'):=Lib.hid fun p=>qU (HSR.out _ (HB18.out.trans ((qC w8 p).mono HB18.out.size)))
          have CN:Hid (∀p,Calls Tryz.prog 8 #[.int .i64 (tr.zH Z),.int .i64 sn] (gw w8 p) fun e w''=>e= .returned (.bool nb)∧∃p',w''=gw w8 p'):=Lib.hid fun p=>qU ((Uf (tr.zH Z) sn _).mono fun e w' h=>⟨by rw[hnb];exact h.1,by rw[h.2];exact Below.refl _ _⟩)
          have HNB:=Lib.hid hnb
          have k0:=qh y2;have k1:=qh x7
          clear hnb
          refine ql (by kernel_rfl) (by kernel_rfl) ?_
          repeat (with_reducible refine wpQuiet_step (fun K hK=>?_);go_simp;(try simp only[undef]);first | (with_reducible refine hK _ ?_;clear hK K) | (apply Exists.intro;refine⟨fun _=>?_,hK _ ?_⟩;(first | (go_at_call 31;with_reducible exact CZ.out _) | (go_at_call 61;with_reducible exact CS.out _) | (go_at_call 8;with_reducible exact CN.out _));clear hK K) | (with_reducible refine⟨fun _ h=>(by cases h),?_⟩;with_reducible refine hK _ ?_;clear hK K))
          refine wpQuiet_nil ?_
          (try simp only[show Value.tuple #[]=undef from rfl])
          intro V hV
          have hBV:Below w8.heap.size w8 V:=by obtain⟨g,rfl⟩:=hV;exact qC _ g
          clear hV
          have HB9:=Lib.hid (HB8.out.trans (hBV.mono HB8.out.size))
          have HB19:=Lib.hid (HB18.out.trans (hBV.mono HB18.out.size))
          have HV8:=Lib.hid hBV
          clear hBV k0 k1 x7
          clear m0 m1 m2 m3 m4 m5 m6 m7 m8 m9 m10 m11 m12 m13 y2 y4 f4 y5 f5
          obtain⟨m0,m1,m2,m3,m4,m5,m6,m7,m8,m9,m10,m11,m12,m13⟩:=(HM.out.below HB9.out).facts
          obtain⟨y2,y4,f4,y5,f5⟩:=zJ.out _ HB9.out
          cases nb
          ·have HRS:=Lib.hid (show tr.yE H op qs au=([tr.q9 Z],0) by rw[HRW.out];unfold tr.K7;rw[ZB.out,if_pos HNB.out.symm])
           obtain⟨r,hr⟩:∃r,r=tr.q9 Z:=⟨_,rfl⟩
           rw[← hr]at HSO HRS
           clear hr
           go_wp2_with fail
           refine(HZN.out V HB19.out).mono ?_
           rintro e w10 ⟨rfl,Zp⟩
           have jg:=Lib.hid (HB9.out.trans (Zp.mono HB9.out.size))
           have HB110:=Lib.hid (HB19.out.trans (Zp.mono HB19.out.size))
           clear Zp
           go_wp2_with fail
           refine(HSO.out w10 HB110.out).mono ?_
           rintro e w11 ⟨rfl,YC⟩
           have HB11:=Lib.hid (jg.out.trans (YC.mono jg.out.size))
           have HB111:=Lib.hid (HB110.out.trans (YC.mono HB110.out.size))
           clear YC
           obtain⟨w12,hw12⟩:∃X,X=w11.alloc (.cells (recC r).toArray 80):=⟨_,rfl⟩
           obtain⟨hBn,-,-⟩:=zw w11 w12 r hw12
           have hB12:=HB11.out.trans (hBn.mono HB11.out.size)
           have hon:=uR (base:=w4.heap.size) r hw12 HB11.out.size
           clear m0 m1 m2 m3 m4 m5 m6 m7 m8 m9 m10 m11 m12 m13 y2 y4 f4 y5 f5
           obtain⟨-,y4,f4,y5,f5⟩:=zJ.out _ hB12
           have HY4:=Lib.hid y4;have HY5:=Lib.hid y5
           have HF:=Lib.hid (yG HRS.out Jh.out Jg.out jf.out.size (jf.out.trans (hB12.mono jf.out.size)) hon)
           rw[hw12]at y4 f4 y5 f5 HY4 HY5 HF
           clear hw12 hBn hB12 hon
           go_wp2_with fail
           (try simp only[Exit.inBlock,Exit.then])
           exact j4 rfl rfl rfl HNE.out HY4.out HY5.out HF.out
          ·have HRS:=Lib.hid (show tr.yE H op qs au=if 0≤tr.frI H sn n∧(tr.yH H (tr.frI H sn n).toNat).length≤(tr.yw Z).length then(tr.yH H (tr.frI H sn n).toNat,0) else(tr.yw Z,0) by
            rw[HRW.out];unfold tr.K7;rw[ZB.out,if_neg (by rw[← HNB.out];simp),← HLN.out,← HN.out])
           clear HRW
           go_wp2_with fail
           refine(HZN.out V HB19.out).mono ?_
           rintro e w10 ⟨rfl,Zp⟩
           have jg:=Lib.hid (HB9.out.trans (Zp.mono HB9.out.size))
           have HB110:=Lib.hid (HB19.out.trans (Zp.mono HB19.out.size))
           have HV10:=Lib.hid (HV8.out.trans (Zp.mono HV8.out.size))
           clear Zp
           go_wp2_with fail
           refine(HWH.out w10 HB110.out).mono ?_
           rintro e w11 ⟨v11,rfl,YC,hO11⟩
           have HB11:=Lib.hid (jg.out.trans (YC.mono jg.out.size))
           have HO11:=Lib.hid (qK hO11 jg.out.size)
           have HV11:=Lib.hid (HV10.out.trans (YC.mono HV10.out.size))
           obtain⟨W,hW⟩:∃W,W=tr.yw Z:=⟨_,rfl⟩
           rw[← hW]at HO11 HRS hO11
           obtain⟨a11,c11,rfl,-⟩:=qm hO11
           obtain⟨w12,hw12⟩:∃X,X=w11.alloc (.cells #[.slice a11 W.length c11] 31):=⟨_,rfl⟩
           obtain⟨k8,hk8⟩:∃b,b=w11.heap.size:=⟨_,rfl⟩
           have hB12:Below w11.heap.size w11 w12:=by rw[hw12];exact(Below.refl _ _).alloc (Nat.le_refl _) _
           have hn8:w12.heap[k8]? =some (.cells #[.slice a11 W.length c11] 31 (0,0)):=by rw[hw12,hk8];exact qB rfl
           have ZX:=Lib.hid (HB11.out.trans (hB12.mono HB11.out.size))
           have HB112:=Lib.hid (jf.out.trans (ZX.out.mono jf.out.size))
           have HO12:=Lib.hid (ownsRow_below HO11.out hB12)
           have HC8:=Lib.hid (show ∀X,Below w12.heap.size w12 X→X.cell? ⟨k8,0,none⟩=some (.slice a11 W.length c11) from fun X hX=>by rw[qg ((hX.block k8 (qo hn8)).trans hn8)];rfl)
           have HV12:=Lib.hid (HV11.out.trans (hB12.mono HV11.out.size))
           have HW12:=Lib.hid hw12;have HK8:=Lib.hid hk8
           obtain⟨g,cap,hgl,hcap,hc0,hcz⟩:=(HH.out.below HB112.out).cells
           clear m0 m1 m2 m3 m4 m5 m6 m7 m8 m9 m10 m11 m12 m13 y2 y4 f4 y5 f5
           clear YC hO11 hW hw12 hk8 hB12 hn8
           go_upto_region 18 with fail
           rw[← HW12.out,← HK8.out]
           obtain⟨y2,-,-,-,-⟩:=zJ.out _ ZX.out
           go_wp2_with fail
           refine(back_any _ _ _ _).mono ?_
           rintro e w13 ⟨rfl,hw13⟩
           obtain⟨kB,hkB⟩:∃b,b=w12.heap.size:=⟨_,rfl⟩
           have hB13:Below w12.heap.size w12 w13:=by rw[hw13];exact(Below.refl _ _).alloc (Nat.le_refl _) _
           have hnB:w13.heap[kB]? =some (.cells #[.slice (some ⟨g,0,none⟩) zs.length cap] 118 (0,0)):=by rw[hw13,hkB];exact qB rfl
           have cB:w13.cell? ⟨kB,0,none⟩=some (.slice (some ⟨g,0,none⟩) zs.length cap):=by rw[qg hnB];rfl
           have hBl:kB<w13.heap.size:=qo hnB
           have hgl13:g<w13.heap.size:=Nat.lt_of_lt_of_le hgl hB13.size
           have hcz13:∀k (hk:k<zs.length),w13.cell? ⟨g,k,none⟩=some (qX zs[k]):=fun k hk=>(hB13.cell (p:=⟨g,k,none⟩) hgl).trans (hcz k hk)
           have Q4:=Lib.hid (ZX.out.trans (hB13.mono ZX.out.size))
           have HB113:=Lib.hid (jf.out.trans (Q4.out.mono jf.out.size))
           have HV13:=Lib.hid (HV12.out.trans (hB13.mono HV12.out.size))
           have HX13:=Lib.hid hB13
           have HO13:=Lib.hid (ownsRow_below HO12.out hB13)
           have HAL:=Lib.hid (show ∀Y,Below w13.heap.size w13 Y→Below w.heap.size w Y∧Below w4.heap.size w4 Y∧Y.cell? ⟨k7,0,none⟩=some (.int .i64 sn)∧Y.cell? ⟨k8,0,none⟩=some (.slice a11 W.length c11)∧Y.ownsRow w4.heap.size 80 5 (.slice a11 W.length c11) W.length (qx W) from fun Y hY=>
            ⟨HB113.out.trans (hY.mono HB113.out.size),Q4.out.trans (hY.mono Q4.out.size),HC7.out Y (HV13.out.trans (hY.mono HV13.out.size)),HC8.out Y (HX13.out.trans (hY.mono HX13.out.size)),ownsRow_below HO13.out hY⟩)
           rw[← hkB]
           clear hw13 hkB hB13 hnB hgl hc0 hcz y2 HC7 HC8 HV13 HX13 HO13
           go_wp2_with fail
           refine(wpIn_wide (n:=9)).1 ?_
           refine wpIn_rangeFunc_ownF rfl (by omega) (gf:=105) (lb:=#[.pointer (some ⟨kB,0,none⟩)]) rfl trivial (enters_of Tryz.func105 (by kernel_rfl) rfl)
            (back_stops Fence.wide (9-1) trivial rfl (by omega) kB g cap zs (by have:=H8.out;omega) w13 hBl hgl13 cB hcz13) (fun h1 h2=>⟨kM h1.1 h2.1,kM h1.2 h2.2⟩) (fun W l o o' hl h1 h2 h3=>⟨kP hBl W l o o' hl h1 h2 h3,kP hgl13 W l o o' hl h1 h2 h3⟩) (Below.refl _ _) (fun _=>rfl)
            (fun pre X=>(∀p∈pre,tr.zH (tr.qZ H p.1)≠sn)∧Below w13.heap.size w13 X)
            (fun c pre X=>RowEx w w13 k4 k5 zs H sn W.length c pre X)
            (OwnFrom.and (Own.from (fun s A B row hs hg hr=>hs) _) (ownFrom_below (Nat.le_refl _) (Nat.le_refl _)))
            (fun c=>rowEx_own HB113.out.size)
            ⟨fun p hp=>absurd hp (by simp),Below.refl _ _⟩ ?a1 ?assign ?body ?done ?stop
           case assign=>
            intro l x X K hK
            have HKK:=Lib.hid hK
            clear hK
            gi_wp2
            exact HKK.out
           case body=>
            rintro l pre x X ⟨hp,hB⟩ hlen
            obtain⟨xk,hxk⟩:=x
            have HP:=Lib.hid hp;have HBX:=Lib.hid hB
            clear hp hB hlen
            have c7:=(HAL.out X HBX.out).2.2.1
            have hf1:Fence.wide.fn 61:=trivial
            have hf2:Fence.wide.fn 70:=trivial
            gi_wp2
            gi_region_with (gi_at_call 61;(with_reducible refine(QY (HSA.out xk hxk _ (HAL.out X HBX.out).1.drew)).mono ?_);rintro e wS ⟨rfl,hbS⟩;have hS:=Below.trans (B:=X.heap.size) (a:=X) (Below.refl _ _).drew (hbS.mono (Nat.le_refl _));have c7S:=(HAL.out wS (HBX.out.trans (hS.mono HBX.out.size))).2.2.1)
            all_goals
             have HS:=Lib.hid hS;have HB13S:=Lib.hid (HBX.out.trans (hS.mono HBX.out.size))
             clear hS hbS c7 c7S
             by_cases he:tr.zH (tr.qZ H xk)=sn
             ·have e1:(tr.zH (tr.qZ H xk) == sn)=true:=by rw[beq_iff_eq];exact he
              have HE:=Lib.hid he
              clear he
              have y2:=(zJ.out wS (HAL.out wS HB13S.out).2.1).1
              gi_wp2_with fail
              refine(QY (HST.out xk hxk wS (HAL.out wS HB13S.out).1)).mono ?_
              rintro e wT ⟨vT,rfl,hBT,hOT⟩
              obtain⟨aT,cT,rfl,-⟩:=qm hOT
              have HB13T:=Lib.hid (HB13S.out.trans (hBT.mono HB13S.out.size))
              have HT:=Lib.hid (HS.out.trans (hBT.mono HS.out.size))
              have HOT:=Lib.hid hOT
              clear hBT hOT y2
              obtain⟨T,hT⟩:∃T,T=tr.yH H xk:=⟨_,rfl⟩
              rw[← hT]at HOT ⊢
              have HTE:=Lib.hid hT
              clear hT
              have x8:=(HAL.out wT HB13T.out).2.2.2.1
              obtain⟨-,y4,f4,y5,f5⟩:=zJ.out wT (HAL.out wT HB13T.out).2.1
              have HY4:=Lib.hid y4;have HY5:=Lib.hid y5
              by_cases hc:T.length≤W.length
              ·have e2:decide ((T.length:Int)≤(W.length:Int))=true:=decide_eq_true (by omega)
               have HC:=Lib.hid hc
               clear hc
               gi_wp2
               refine⟨((kz HT.out).trans (KeepsOthers.setCell _ _ _)).trans (KeepsOthers.setCell _ _ _),pre,⟨xk,hxk⟩,rfl,HE.out,HP.out,.inl ⟨rfl,by rw[← HTE.out];exact HC.out,?_,_,(QI HNE.out HY4.out HY5.out).1,(QI HNE.out HY4.out HY5.out).2,?_⟩⟩
               ·exact(((HAL.out wT HB13T.out).1).setCell (p:=⟨k4,0,none⟩) Jh.out.1 _).setCell (p:=⟨k5,0,none⟩) Jg.out.1 _
               ·rw[← HTE.out]
                refine qK (qi HOT.out fun b hb=>?_) HB13S.out.size
                have h1:=(HOT.out.lt b hb).1
                have h2:=HB13S.out.size
                have h3:=Q4.out.size
                have h4:=Jh.out.2
                have h5:=Jg.out.2
                rw[Below.heap_setCell _ _ _ _ (show b≠k5 by omega),Below.heap_setCell _ _ _ _ (show b≠k4 by omega)]
              ·have e2:decide ((T.length:Int)≤(W.length:Int))=false:=decide_eq_false (by omega)
               have HC:=Lib.hid hc
               clear hc
               gi_wp2
               exact⟨kz HT.out,pre,⟨xk,hxk⟩,rfl,HE.out,HP.out,.inr ⟨rfl,by rw[← HTE.out];exact HC.out,HB13T.out⟩⟩
             ·have e1:(tr.zH (tr.qZ H xk) == sn)=false:=by rw[beq_eq_false_iff_ne];exact he
              have HE:=Lib.hid he
              clear he
              gi_wp2
              exact⟨kz HS.out,⟨HS.out.block kB (Nat.lt_of_lt_of_le hBl HBX.out.size),HS.out.block g (Nat.lt_of_lt_of_le hgl13 HBX.out.size)⟩,fun p hp=>(List.mem_append.1 hp).elim (HP.out p) (fun h=>by rw[List.mem_singleton.1 h];exact HE.out),HB13S.out⟩
           case done=>
            rintro D xs X hD hS ⟨hp,hB⟩ hK
            have HRT:=Lib.hid (show tr.yE H op qs au=(W,0) by
             have h1:tr.frI H sn n= -1:=tr.fr_none _ fun i hi=>by
              have h2:i∈xs.map (·.1):=by rw[hS];exact tr.mem_bk.2 ⟨Nat.zero_le _,by rw[← HN.out];exact hi⟩
              obtain⟨p,hp1,rfl⟩:=List.mem_map.1 h2
              exact hp p hp1
             rw[HRS.out,h1,if_neg (by simp)])
            have HBX:=Lib.hid hB;have HD:=Lib.hid hD;have HK:=Lib.hid hK
            clear hS hp hB hD hK
            obtain⟨-,y4,f4,y5,f5⟩:=zJ.out X (HAL.out X HBX.out).2.1
            have HY4:=Lib.hid y4;have HY5:=Lib.hid y5
            have x8:=(HAL.out X HBX.out).2.2.2.1
            have HF:=Lib.hid (yG HRT.out Jh.out Jg.out jf.out.size (HAL.out X HBX.out).1 (HAL.out X HBX.out).2.2.2.2)
            go_wp2_with fail
            exact JD rfl rfl rfl (Nat.le_trans HB113.out.size HD.out) (by rw[Below.heap_setCell _ _ _ _ (show D≠k5 by have:=HD.out;have:=Jg.out.2;have:=Q4.out.size;omega),Below.heap_setCell _ _ _ _ (show D≠k4 by have:=HD.out;have:=Jh.out.2;have:=Q4.out.size;omega)];exact HK.out) (QI HNE.out HY4.out HY5.out).1 (QI HNE.out HY4.out HY5.out).2 HF.out
           case stop=>
            rintro D c pre X hD hpre ⟨pre0,x,rfl,hx,hp,hc⟩ hK
            rw[List.map_append,List.map_singleton]at hpre
            obtain⟨hp0,hxl⟩:=tr.bk_last hpre
            have hfr:tr.frI H sn n=((x.1:Nat):Int):=tr.fr_at hx _ (by rw[HN.out];exact x.2) fun i h1 h2=>by
             have h3:i∈pre0.map (·.1):=by rw[hp0];exact tr.mem_bk.2 ⟨h1,by rw[← HN.out];exact h2⟩
             obtain⟨p,hp1,rfl⟩:=List.mem_map.1 h3
             exact hp p hp1
            rcases hc with⟨rfl,hl,hB,v,c4,c5,ho⟩|⟨rfl,hl,hB⟩
            ·have HRT:=Lib.hid (show tr.yE H op qs au=(tr.yH H x.1,0) by
              rw[HRS.out,hfr,Int.toNat_natCast,if_pos ⟨by omega,hl⟩])
             have HF:=Lib.hid (rowPost_some HRT.out hB (qK ho HB113.out.size))
             have HD:=Lib.hid hD;have HK:=Lib.hid hK;have HC4:=Lib.hid c4;have HC5:=Lib.hid c5
             clear hpre hp0 hfr hp hx hl hB ho hD hK c4 c5 HRS
             refine(wpIn_wide (n:=9)).2 ?_
             go_wp2_with fail
             exact JD rfl rfl rfl (Nat.le_trans HB113.out.size HD.out) HK.out HC4.out HC5.out HF.out
            ·have HRT:=Lib.hid (show tr.yE H op qs au=(W,0) by
              rw[HRS.out,hfr,Int.toNat_natCast,if_neg (fun h=>hl h.2)])
             have HBX:=Lib.hid hB;have HD:=Lib.hid hD;have HK:=Lib.hid hK
             clear hpre hp0 hfr hp hx hl hB hD hK HRS
             refine(wpIn_wide (n:=9)).2 ?_
             obtain⟨-,y4,f4,y5,f5⟩:=zJ.out X (HAL.out X HBX.out).2.1
             have HY4:=Lib.hid y4;have HY5:=Lib.hid y5
             have x8:=(HAL.out X HBX.out).2.2.2.1
             have HF:=Lib.hid (yG HRT.out Jh.out Jg.out jf.out.size (HAL.out X HBX.out).1 (HAL.out X HBX.out).2.2.2.2)
             go_wp2_with fail
             exact JD rfl rfl rfl (Nat.le_trans HB113.out.size HD.out) (by rw[Below.heap_setCell _ _ _ _ (show D≠k5 by have:=HD.out;have:=Jg.out.2;have:=Q4.out.size;omega),Below.heap_setCell _ _ _ _ (show D≠k4 by have:=HD.out;have:=Jh.out.2;have:=Q4.out.size;omega)];exact HK.out) (QI HNE.out HY4.out HY5.out).1 (QI HNE.out HY4.out HY5.out).2 HF.out
        ·have e10:(r0.typ != 6)=true:=by rw[bne_iff_ne];exact k6
         have HRW0:=Lib.hid (show tr.yE H op qs au=([],1) by rw[HQS.out,HAU.out];exact tr.row_bad HOP.out HC.out HK.out (.inl k6))
         clear k6
         have HRW:=Lib.hid (show tr.yE H op qs au=([],1) from HRW0.out)
         have HY4:=Lib.hid y4;have HY5:=Lib.hid y5
         go_wp2_with fail
         (try simp only[Exit.inBlock,Exit.then])
         exact j4 rfl rfl rfl HNE.out HY4.out HY5.out (yG HRW.out Jh.out Jg.out jf.out.size (jf.out.trans (HB6.out.mono jf.out.size)) (World.ownsRow_nil _ _ _ _))
       ·have e9:((au.length:Int) != 1)=true:=by rw[bne_iff_ne];omega
        have HRW0:=Lib.hid (show tr.yE H op qs au=([],1) by rw[HQS.out];exact tr.row_auth HOP.out HC.out HK.out hu1)
        clear hu1
        have HRW:=Lib.hid (show tr.yE H op qs au=([],1) from HRW0.out)
        have HY4:=Lib.hid y4;have HY5:=Lib.hid y5
        go_wp2_with fail
        (try simp only[Exit.inBlock,Exit.then])
        exact j4 rfl rfl rfl HNE.out HY4.out HY5.out (yG HRW.out Jh.out Jg.out jf.out.size (jf.out.trans (HB6.out.mono jf.out.size)) (World.ownsRow_nil _ _ _ _))
      ·have e8:(q0.typ != 251)=true:=by rw[bne_iff_ne];exact k251
       have HRW0:=Lib.hid (show tr.yE H op qs au=([],5) by rw[HQS.out];exact tr.row_other HOP.out HC.out Ja k251)
       clear k251 Ja
       have HRW:=Lib.hid (show tr.yE H op qs au=([],5) from HRW0.out)
       have HY4:=Lib.hid y4;have HY5:=Lib.hid y5
       go_wp2_with fail
       (try simp only[Exit.inBlock,Exit.then])
       exact j4 rfl rfl rfl HNE.out HY4.out HY5.out (yG HRW.out Jh.out Jg.out jf.out.size (jf.out.trans (HB6.out.mono jf.out.size)) (World.ownsRow_nil _ _ _ _))
   ·have e6:(q0.cls != 1)=true:=by rw[bne_iff_ne];exact kc
    go_upto_region 6 with fail
    clear e3
    refine ql (by kernel_rfl) (by kernel_rfl) ?_
    repeat (with_reducible refine wpQuiet_step (fun K hK=>?_);go_simp;(try simp only[undef]);first | (with_reducible refine hK _ ?_;clear hK K))
    refine wpQuiet_nil ?_
    (try simp only[show Value.tuple #[]=undef from rfl])
    intro U hU
    have hBU:Below w5.heap.size w5 U:=by obtain⟨g,rfl⟩:=hU;exact qC _ g
    clear hU
    have HB6:=Lib.hid (HB5.out.trans (hBU.mono HB5.out.size))
    clear hBU k0 k1 k2' e6
    clear m0 m1 m2 m3 m4 m5 m6 m7 m8 m9 m10 m11 m12 m13 y2 y4 f4 y5 f5
    obtain⟨m0,m1,m2,m3,m4,m5,m6,m7,m8,m9,m10,m11,m12,m13⟩:=(HM.out.below HB6.out).facts
    obtain⟨y2,y4,f4,y5,f5⟩:=zJ.out _ HB6.out
    have HRW:=Lib.hid (show tr.yE H op qs au=([],9) from(by rw[HQS.out];exact tr.row_not HOP.out (fun hh=>kc hh.1)))
    have HY4:=Lib.hid y4;have HY5:=Lib.hid y5
    go_wp2_with fail
    (try simp only[Exit.inBlock,Exit.then])
    exact j4 rfl rfl rfl HNE.out HY4.out HY5.out (yG HRW.out Jh.out Jg.out jf.out.size (jf.out.trans (HB6.out.mono jf.out.size)) (World.ownsRow_nil _ _ _ _))
  ·have e3:(op != 0)=true:=by rw[bne_iff_ne];exact ho
   have HRW:=Lib.hid (show tr.yE H op qs au=([],4) from(by rw[HQS.out];exact tr.row_op ho))
   have HY4:=Lib.hid y4;have HY5:=Lib.hid y5
   go_wp2_with fail
   (try simp only[Exit.inBlock,Exit.then])
   exact j4 rfl rfl rfl HNE.out HY4.out HY5.out (yG HRW.out Jh.out Jg.out jf.out.size (jf.out.trans (HB5.out.mono jf.out.size)) (World.ownsRow_nil _ _ _ _))
 ·have e4:((qs.length:Int) != 1)=true:=by rw[bne_iff_ne];omega
  have HRW:=Lib.hid (show tr.yE H op qs au=([],1) from(tr.row_many hq1))
  have HY4:=Lib.hid y4;have HY5:=Lib.hid y5
  go_wp2_with fail
  (try simp only[Exit.inBlock,Exit.then])
  exact j4 rfl rfl rfl HNE.out HY4.out HY5.out (yG HRW.out Jh.out Jg.out jf.out.size (jf.out.trans (HRF.out.mono jf.out.size)) (World.ownsRow_nil _ _ _ _))
end Go.Proofs.YtpcmilhjpmlbpaaGreatDoor
