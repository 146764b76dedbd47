import Derived.Test.YtpcmilhjpmlbpaaGreatDoorQCpN
import Derived.Deep.RegionWith
set_option maxRecDepth 100000
set_option maxHeartbeats 16000000
namespace Go.Proofs.YtpcmilhjpmlbpaaGreatDoor
open Go.RowKit Go.Shelf nm od
theorem wf_zone {Z:tr.Zn}(hv:tr.Ok Z){r:Rec}(hr:r∈Z.l):(Lit.int .i64 r.typ).wf=true:=by
 have h:=tr.vg hv hr;unfold wi.qR wi.inB at h;simp only[Bool.and_eq_true,decide_eq_true_eq]at h;obtain⟨⟨⟨⟨-,h1⟩,-⟩,-⟩,-⟩:=h;simp only[Lit.wf,Bool.and_eq_true,decide_eq_true_eq];have e1:IntKind.i64.min= -9223372036854775808:=rfl;have e2:IntKind.i64.max=9223372036854775807:=rfl;rw[e1,e2];omega
attribute [local go_sem] rec_if
theorem yo {w:World}{b:Nat}{o:Obj}(h:w.heap[b]? =some o):b<w.heap.size:=(Array.getElem?_eq_some_iff.1 h).1
def uj (w:World)(b:Nat)(r:Rec):Prop:=w.heap[b]? =some (.cells (recC r).toArray 80 (0,0))
theorem uj.cells {w:World}{b:Nat}{r:Rec}(h:uj w b r):w.cell? ⟨b,0,none⟩=some (.string r.owner)∧w.cell? ⟨b,1,none⟩=some (.int .i64 r.typ)∧w.cell? ⟨b,2,none⟩=some (.int .i64 r.cls)∧w.cell? ⟨b,3,none⟩=some (.int .i64 r.ttl)∧w.cell? ⟨b,4,none⟩=some (.string r.data):=by
 refine⟨?_,?_,?_,?_,?_⟩ <;> (rw[qh h];rfl)
theorem uj.new {w w':World}(r:Rec)(e:w'=w.alloc (.cells (recC r).toArray 80)):uj w' w.heap.size r:=by subst e;exact qz rfl
theorem uj.below {w w':World}{b:Nat}{r:Rec}(h:uj w b r)(hB:Below w.heap.size w w'):uj w' b r:=(hB.block b (yo h)).trans h
theorem uj.stored {w:World}{b:Nat}{r:Rec}(h:uj w b r)(y:Rec):uj (((((w.setCell ⟨b,0,none⟩ (.string y.owner)).setCell ⟨b,1,none⟩ (.int .i64 y.typ)).setCell ⟨b,2,none⟩ (.int .i64 y.cls)).setCell ⟨b,3,none⟩ (.int .i64 y.ttl)).setCell ⟨b,4,none⟩ (.string y.data)) b y∧
 w.grownBy (((((w.setCell ⟨b,0,none⟩ (.string y.owner)).setCell ⟨b,1,none⟩ (.int .i64 y.typ)).setCell ⟨b,2,none⟩ (.int .i64 y.cls)).setCell ⟨b,3,none⟩ (.int .i64 y.ttl)).setCell ⟨b,4,none⟩ (.string y.data)) (some b):=by
 refine⟨qC (qC (qC (qC (qC h 0 _) 1 _) 2 _) 3 _) 4 _,?_⟩;have g:∀(W:World) (i:Nat) (v:Value),W.grownBy (W.setCell ⟨b,i,none⟩ v) (some b):=fun W i v=>grownBy_setCell W ⟨b,i,none⟩ v;exact((((g _ _ _).trans (g _ _ _)).trans (g _ _ _)).trans (g _ _ _)).trans (g _ _ _)
theorem zO {w w':World}{b:Nat}(h:RowKit.Below b w w'):∀n,RowKit.Below b w (w'.drewN n)
 | 0=>h
 | n+1=>(zO h n).drew
structure xz (w:World)(b6:Nat)(Z:tr.Zn)(x:Rec)(tl:List Rec)(wr:World)(k0:Nat)(lv:Value)(now:Rec)(goes:Bool)(L:List Rec):Prop where
 below:Below w.heap.size w wr
 own:wr.ownsRow w.heap.size 80 5 lv L.length (qp L)
 far:∀b,lv.ownBlock=some b→b≠b6
 box:uj wr b6 now
 len:L.length≤2000+k0
 wf:∀r∈L,(Lit.int .i64 r.typ).wf=true
 nwf:(Lit.int .i64 now.typ).wf=true
 run:tr.jw x (now,goes,L) (tl.drop k0)=tr.jw x (tr.ze Z,false,tr.qP Z.l) tl
section
variable {w wr w':World}{b6 k0:Nat}{Z:tr.Zn}{x now:Rec}{tl L:List Rec}{lv:Value}{goes:Bool}
theorem xz.moved (h:xz w b6 Z x tl wr k0 lv now goes L)(hB:Below wr.heap.size wr w'){goes':Bool}(hr:tr.jw x (now,goes',L) (tl.drop (k0+1))=tr.jw x (tr.ze Z,false,tr.qP Z.l) tl):xz w b6 Z x tl w' (k0+1) lv now goes' L:=
 ⟨h.below.trans (hB.mono h.below.size),ownsRow_below h.own hB,h.far,(hB.block b6 (yo h.box)).trans h.box,by have:=h.len;omega,h.wf,h.nwf,hr⟩
theorem xz.turned (h:xz w b6 Z x tl wr k0 lv now goes L)(h6:w.heap.size≤b6)(hB:Below wr.heap.size wr w'){y:Rec}(hy:(Lit.int .i64 y.typ).wf=true)(hr:tr.jw x (y,false,L) (tl.drop (k0+1))=tr.jw x (tr.ze Z,false,tr.qP Z.l) tl):
 xz w b6 Z x tl (((((w'.setCell ⟨b6,0,none⟩ (.string y.owner)).setCell ⟨b6,1,none⟩ (.int .i64 y.typ)).setCell ⟨b6,2,none⟩ (.int .i64 y.cls)).setCell ⟨b6,3,none⟩ (.int .i64 y.ttl)).setCell ⟨b6,4,none⟩ (.string y.data)) (k0+1) lv y false L:=by
 have hb:uj w' b6 now:=(hB.block b6 (yo h.box)).trans h.box;have hs:=hb.stored y;have hB2:=h.below.trans (hB.mono h.below.size);refine⟨hB2.grown hs.2 hB2.size (fun j hj=>by simp only[Option.some.injEq]at hj;omega),qj (ownsRow_below h.own hB) (fun c hc=>hs.2.block c ((ownsRow_below h.own hB).lt c hc).2 (by simp only[ne_eq,Option.some.injEq];exact h.far c hc)),h.far,hs.1,by have:=h.len;omega,h.wf,hy,hr⟩
theorem xz.less (h:xz w b6 Z x tl wr k0 lv now goes L){w1:World}(hB:Below wr.heap.size wr w1){k:Nat}(hk:k<L.length){v':Value}(ho:v'.ownBlock=lv.ownBlock)(hg:w1.grownBy w' lv.ownBlock)(hown:w'.ownsRow w.heap.size 80 5 v' (L.eraseIdx k).length (qp (L.eraseIdx k)))
 (hr:tr.jw x (now,goes,L.eraseIdx k) (tl.drop (k0+1))=tr.jw x (tr.ze Z,false,tr.qP Z.l) tl):xz w b6 Z x tl w' (k0+1) v' now goes (L.eraseIdx k):=by
 have hB2:=h.below.trans (hB.mono h.below.size);have ho1:=ownsRow_below h.own hB;have hl:=yo h.box;refine⟨hB2.grown hg hB2.size (fun j hj=>(ho1.lt j hj).1),hown,fun c hc=>h.far c (ho ▸ hc),?_,?_,fun r hr=>h.wf r (List.mem_of_mem_eraseIdx hr),h.nwf,hr⟩
 ·refine(hg.block b6 (Nat.lt_of_lt_of_le hl hB.size) (fun e=>h.far b6 e.symm rfl)).trans ((hB.block b6 hl).trans h.box)
 ·rw[List.length_eraseIdx,if_pos hk];have:=h.len;omega
theorem xz.more (h:xz w b6 Z x tl wr k0 lv now goes L){w1:World}(hB:Below wr.heap.size wr w1){y:Rec}(hy:(Lit.int .i64 y.typ).wf=true){v':Value}(hg:w1.grownBy w' lv.ownBlock)(hn:∀b,v'.ownBlock=some b→lv.ownBlock=some b∨w1.heap.size≤b)(hown:w'.ownsRow w.heap.size 80 5 v' (L ++ [y]).length (qp (L ++ [y])))
 (hr:tr.jw x (now,goes,L ++ [y]) (tl.drop (k0+1))=tr.jw x (tr.ze Z,false,tr.qP Z.l) tl):xz w b6 Z x tl w' (k0+1) v' now goes (L ++ [y]):=by
 have hB2:=h.below.trans (hB.mono h.below.size);have ho1:=ownsRow_below h.own hB;have hl:=yo h.box;refine⟨hB2.grown hg hB2.size (fun j hj=>(ho1.lt j hj).1),hown,fun c hc e=>?_,?_,?_,fun r hr=>?_,h.nwf,hr⟩
 ·rcases hn c hc with h1 | h1
  ·exact h.far c h1 e
  ·have:=hB.size;omega
 ·refine(hg.block b6 (Nat.lt_of_lt_of_le hl hB.size) (fun e=>h.far b6 e.symm rfl)).trans ((hB.block b6 hl).trans h.box)
 ·rw[List.length_append,List.length_singleton];have:=h.len;omega
 ·rcases List.mem_append.1 hr with h1 | h1
  ·exact h.wf r h1
  ·rw[List.mem_singleton.1 h1];exact hy
end
theorem tsteps_any (t z tz:Nat)(Z:tr.Zn)(hv:tr.Ok Z)(n:ByteArray)(s:Bool)(x:Rec)(tl:List Rec)(hl:tl.length≤10000000)(hok:∀r∈x :: tl,(Lit.int .i64 r.typ).wf=true)(v:Value)(w:World)(hz:jA w tz z Z.ap Z.l)(ht:KT w t (qW z) n s (x :: tl) v):
 Calls Tryz.prog 90 #[.pointer (some ⟨t,0,none⟩)] w fun e w'=>xM (tr.uP Z x tl) (qW z) w e w':=by
 obtain⟨hr,htl,c0,c1,c2,c3⟩:=id ht;obtain⟨va,vc,rfl,hvc,-⟩:=id hr;obtain⟨b,off,rfl⟩:=vk hr (by simp);obtain⟨hbl,r0,r1,r2,r3,r4⟩:=qL hr (j:=0) (by simp);simp only[List.getElem_cons_zero,Nat.zero_mul,Nat.add_zero]at r0 r1 r2 r3 r4;obtain⟨m,hm⟩:∃m,m=(x :: tl).length:=⟨_,rfl⟩;have hm2:m=tl.length+1:=by rw[hm];rfl
 rw[← hm]at hvc c3;obtain⟨ka,hka,hki,hkx,hke⟩:=tr.soa_idx hv;have hsm:=hv.small;have HRC:=qe (show ∀X:World,Below w.heap.size w X→Calls Tryz.prog 23 #[qW z] X fun e w'=>yn Z.l X e w' from fun X hX=>
  vI _ z Z.ap Z.l hsm X (hz.kept hX).v)
 have HIF:=qe (show ∀(X:World) (u:Value),qm X u Z.l→Calls Tryz.prog 137 #[u,.func (.func 138) #[] #[]] X fun e w'=>e= .returned (.int .i64 (ka:Int))∧Below X.heap.size X w' from fun X u ho=>by
  have h:=Kj 138 #[] Xp (fun r=>decide (r.typ=6)) X.heap.size X X Z.l (by omega) u ho (Below.refl _ _) (Nat.le_refl _) (fun r _ Y _=>steps1_any r Y);rw[hki]at h;exact h)
 have zD:=qe (show ∀X,Below w.heap.size w X→Below w.heap.size w X∧X.cell? ⟨t,0,none⟩=some (qW z) from fun X hX=>⟨hX,(ht.below hX).2.2.1⟩);have HT:=qe ht;have HR:=qe hr;have HM:=qe hm;have HM2:=qe hm2;have HOK:=qe hok;have HV:=qe hv;have HZ:=qe hz;have HKA:=qe hka;have HKX:=qe (show ∃h:ka<Z.l.length,Z.l[ka]=tr.ze Z from⟨hka,hkx⟩);have HKE:=qe hke;have HSM:=qe hsm;have HVC:=qe hvc;have HL:=qe hl;clear hr hm hm2 hok hv hz hka hki hkx hke hsm hvc hl ht;have HB0:=qe (Below.refl w.heap.size w)
 go_enter Tryz.func90,Tryz.ntmps90
 go_upto_region 1 with fail
 go_cut [4,5] (fun v4 v5 wx=>v5= .int .i64 (ka:Int)∧Below w.heap.size w wx∧wx.ownsRow w.heap.size 80 5 v4 Z.l.length (qp Z.l))
 case first=>
  go_region_held3 (fun X=>Below w.heap.size w X∧X.cell? ⟨t,0,none⟩=some (qW z))
   (first | assumption | exact zD.out _ (Below.refl _ _).drew | (go_split_ands;exact zD.out _ (by assumption)))
   (first
    | (go_at_call 23;(with_reducible refine(HRC.out _ (by go_split_ands;assumption)).mono ?_);first | (rintro e wB ⟨vB,rfl,hbB,hoB⟩;go_split_ands;have hoA1:=ownsRow_below hoA hbB;have hbB2:=Below.trans (B:=w.heap.size) (a:=w) (by assumption) (hbB.mono (Below.size (by assumption)))) | (rintro e wA ⟨vA,rfl,hbA,hoA⟩;go_split_ands;have Zi:=Below.trans (B:=w.heap.size) (a:=w) (by assumption) (hbA.mono (Below.size (by assumption)))))
    | (go_at_call 137;(with_reducible refine(HIF.out _ _ (by first | exact qD hoB | exact qD hoA1 | exact qD hoA)).mono ?_);rintro e wI ⟨rfl,hbI⟩;go_split_ands;have hbI2:=Below.trans (B:=w.heap.size) (a:=w) (by assumption) (hbI.mono (Below.size (by assumption)))))
  all_goals
   go_wp2_with fail;go_meet
   first
    | exact⟨rfl,hbI2,qG (ownsRow_below hoB hbI) (by first | exact Nat.le_refl _ | exact Below.size (by assumption))⟩
    | exact⟨rfl,hbI2,qG (ownsRow_below hoA1 hbI) (by first | exact Nat.le_refl _ | exact Below.size (by assumption))⟩
    | exact⟨rfl,hbI2,qG (ownsRow_below hoA hbI) (by first | exact Nat.le_refl _ | exact Below.size (by assumption))⟩
    | exact⟨rfl,Zi,qG hoA (by first | exact Nat.le_refl _ | exact Below.size (by assumption))⟩
    | exact⟨rfl,hbB2,qG hoB (by first | exact Nat.le_refl _ | exact Below.size (by assumption))⟩
 obtain⟨rfl,hB1,hO1⟩:=hcut;obtain⟨w1,hw1⟩:∃X:World,X=wc:=⟨_,rfl⟩;subst hw1;obtain⟨g1,p1,rfl,-,-⟩:=hO1.form (by have:=HKA.out;omega);obtain⟨sx,hsx⟩:∃sx,sx=tr.ze Z:=⟨_,rfl⟩;obtain⟨-,d0,d1,d2,d3,d4⟩:=qL (qD hO1) (j:=ka) HKA.out;have hkx:Z.l[ka]'HKA.out=sx:=by rw[hsx];exact HKX.out.2
 rw[hkx]at d0 d1 d2 d3 d4;simp only[Nat.zero_add]at d0 d1 d2 d3 d4;obtain⟨w2,hw2⟩:∃X,X=w1.alloc (.cells (recC sx).toArray 80):=⟨_,rfl⟩;obtain⟨hB2,hs2,-⟩:=qY w1 w2 sx hw2;have hx2:=uj.new sx hw2;obtain⟨b6,hb6⟩:∃b,b=w1.heap.size:=⟨_,rfl⟩;rw[← hb6]at hx2;have hd:=Xb Z.l (by have:=HSM.out;omega) ka (ka+1) HKA.out rfl w.heap.size _ w2 (ownsRow_below hO1 hB2);obtain⟨ka1,hka1⟩:∃k,k=ka+1:=⟨_,rfl⟩;rw[← hka1,HKE.out]at hd;have HD:=qe hd;have e1:IntKind.i64.wrap ((ka:Int)+1)=(ka1:Int):=by rw[hka1];exact IntWalk.i64_in _ (by have:=HKA.out;have:=HSM.out;omega)
 have e2:(0:Int)≤(ka:Int):=by omega
 have e3:(ka:Int)<(Z.l.length:Int):=by have:=HKA.out;omega
 have e4:ka<Z.l.length:=HKA.out;have HB1:=qe hB1;have HO1:=qe hO1;have HSX:=qe hsx;have HW2:=qe hw2;have HB2:=qe hB2;have HX2:=qe hx2;have HB6:=qe hb6;have HS2:=qe hs2;clear hB1 hO1 hsx hkx hw2 hB2 hs2 hx2 hb6 hd hka1 HRC HIF zD HKX HKE HKA c1 c2 r0 r1 r2 r3 r4;go_upto_region 3 with fail;rw[← HW2.out,← HB6.out];clear d0 d1 d2 d3 d4;go_wp2_with fail;refine HD.out.mono ?_;rintro e w3 ⟨v3,rfl,hob3,hg3,hO3⟩;have hob3':v3.ownBlock=some g1:=hob3;have hg3':w2.grownBy w3 (some g1):=hg3;have hg1:=HO1.out.lt g1 rfl;have hS:xz w b6 Z x tl w3 0 v3 sx false (tr.qP Z.l):=by
  refine⟨(HB1.out.trans (HB2.out.mono HB1.out.size)).grown hg3' (by have:=HB1.out.size;have:=HB2.out.size;omega) (fun q hq=>by simp only[Option.some.injEq]at hq;omega),hO3,fun b hb=>by rw[hob3']at hb;simp only[Option.some.injEq]at hb;have:=HB6.out;omega,?_,?_,fun r hr=>wf_zone HV.out (tr.uz.1 hr).1,?_,?_⟩
  ·exact(hg3'.block b6 (by have:=HB6.out;have:=HS2.out;omega) (by simp only[ne_eq,Option.some.injEq];have:=HB6.out;omega)).trans HX2.out
  ·exact Nat.le_trans (List.length_filter_le _ _) (by have:=HSM.out;omega)
  ·rw[HSX.out];exact wf_zone HV.out (tr.yM HV.out).2.1
  ·rw[HSX.out];rfl
 have HS3:=qe hS;have H6L:=qe (show w.heap.size≤b6 by have:=HB6.out;have:=HB1.out.size;omega);clear hob3 hob3' hg3 hg3' hO3 hS hg1 e1 e2 e3 e4 HD HO1 HX2 HW2 HB2 HS2 HB6 HSX;go_wp2_with fail
 go_loopw [9,4,7,8] (fun kv lv gv bv wr=>∃(k0 k:Nat) (now:Rec) (goes beg:Bool) (L:List Rec) (lx:Value),k=k0+1∧k0≤tl.length∧kv= .int .i64 (k:Int)∧lx=lv∧gv= .bool goes∧bv= .bool beg∧(goes=true→beg=true)∧Hid (xz w b6 Z x tl wr k0 lx now goes L)) (fun kv _ _ _ _=>m-(intOf kv).toNat)
 case atStart=>exact⟨0,1,sx,false,false,tr.qP Z.l,_,rfl,Nat.zero_le _,rfl,rfl,rfl,rfl,fun h=>h,HS3⟩
 case round=>
  obtain⟨k0,k,now,goes,beg,L,lv,hk,hk0,rfl,rfl,rfl,rfl,hgb,HST⟩:=hrel;obtain⟨wr3,hw3⟩:∃X:World,X=wr:=⟨_,rfl⟩;subst hw3;have hB3:=HST.out.below;have ht3:=HT.out.below hB3;rw[← HM.out]at ht3;obtain⟨-,-,q0,-,-,q3⟩:=ht3;by_cases hlt:k0<tl.length
  ·have hki:(k:Int)<(m:Int):=by have:=HM2.out;omega
   have hkn:k<m:=by have:=HM2.out;omega
   have hk9:(0:Int)≤(k:Int):=by omega
   have ek:IntKind.i64.wrap ((k:Int)+1)=(k:Int)+1:=IntWalk.i64_in _ (by have:=HM2.out;have:=HL.out;omega);have em:IntKind.i64.wrap ((m:Int)-1)=(m:Int)-1:=IntWalk.i64_in _ (by have:=HM2.out;have:=HL.out;omega);have hr3:=HR.out.below hB3;obtain⟨-,a0,a1,a2,a3,a4⟩:=qL hr3 (j:=k) (by have:=HM.out;omega);obtain⟨y,hy⟩:∃y,y=tl[k0]:=⟨_,rfl⟩;have hyk:(x :: tl)[k]'(by have:=HM.out;omega)=y:=by subst hk;rw[hy];rfl
   rw[hyk]at a0 a1 a2 a3 a4;have hdr:tl.drop k0=y :: tl.drop k:=by rw[hy,hk];exact List.drop_eq_getElem_cons hlt
   have hywf:=HOK.out y (by rw[hy];exact List.mem_cons_of_mem _ (List.getElem_mem hlt));have hrun:=HST.out.run;rw[hdr]at hrun;obtain⟨w4,hw4⟩:∃X,X=wr3.alloc (.cells (recC y).toArray 80):=⟨_,rfl⟩;obtain⟨hB4,hs4,hx4⟩:=qY wr3 w4 y hw4;obtain⟨b10,hb10⟩:∃b,b=wr3.heap.size:=⟨_,rfl⟩;rw[← hb10]at hx4;have HK:=qe hk;have HLT:=qe hlt;have HYWF:=qe hywf;have HRUN:=qe hrun;have HDR:=qe hdr;have HW4:=qe hw4;have HB4:=qe hB4;have HX4:=qe hx4;have yV:=qe hb10;have HGB:=qe hgb;have HS4:=qe hs4;have Y1:=qe (hB3.trans (hB4.mono hB3.size));clear hB3 hr3 hy hyk hdr hywf hrun hw4 hB4 hs4 hx4 hb10 hgb hk hk0 hlt;go_upto_region 11 with fail;rw[← HW4.out,← yV.out];clear a0 a1 a2 a3 a4 q0 q3;have HXB:=qe (show uj w4 b10 y from by rw[yV.out];exact uj.new y HW4.out);have HNB:=qe (show uj w4 b6 now from(HB4.out.block b6 (yo HST.out.box)).trans HST.out.box);obtain⟨-,-,q0,-,-,q3⟩:=HT.out.below Y1.out;rw[← HM.out]at q3;obtain⟨-,r0,r1,r2,r3,r4⟩:=qL (HR.out.below Y1.out) (j:=0) (by simp);simp only[List.getElem_cons_zero,Nat.zero_mul,Nat.add_zero]at r0 r1 r2 r3 r4;obtain⟨x0,x1,x2,x3,x4⟩:=uj.cells HXB.out;obtain⟨n0,n1,n2,n3,n4⟩:=uj.cells HNB.out;have e0:0<m:=by omega
   by_cases h6:y.typ=6
   ·have d6:(y.typ == 6)=true:=by rw[beq_iff_eq];exact h6
    cases goes
    ·by_cases hyn:y=now
     ·subst hyn;by_cases hkm:(k:Int)=(m:Int)-1
      ·have ekm:((k:Int) == (m:Int)-1)=true:=by rw[beq_iff_eq];exact hkm
       have hdk:tl.drop k= []:=List.drop_of_length_le (by have:=HM2.out;omega);by_cases hyx:y=x
       ·have HMK:=qe (show tr.uP Z x tl= .make Z.ap (L ++ [y]) from by
         have h:=HRUN.out;rw[tr.run_end h6 rfl hdk hyx]at h;exact tr.steps_make h.symm)
        subst hyx;clear hkm hdk h6
        go_quiet (fail)
        obtain⟨w5,hw5⟩:∃X,X=w4.drewN nq:=⟨_,rfl⟩;rw[← hw5];have jO:=qe (show Below w4.heap.size w4 w5 from by rw[hw5];exact zO (Below.refl _ _) nq);clear hw5;clear x0 x1 x2 x3 x4 n0 n1 n2 n3 n4;clear q0 q3 r0 r1 r2 r3 r4;have kS:=qe (Y1.out.trans (jO.out.mono Y1.out.size));have QO:=qe (HB4.out.trans (jO.out.mono HB4.out.size));obtain⟨-,-,q0,-,-,q3⟩:=HT.out.below kS.out;rw[← HM.out]at q3;obtain⟨-,r0,r1,r2,r3,r4⟩:=qL (HR.out.below kS.out) (j:=0) (by simp);simp only[List.getElem_cons_zero,Nat.zero_mul,Nat.add_zero]at r0 r1 r2 r3 r4;obtain⟨x0,x1,x2,x3,x4⟩:=uj.cells (HXB.out.below jO.out);have HN5:=qe (HNB.out.below jO.out);obtain⟨n0,n1,n2,n3,n4⟩:=uj.cells HN5.out;have HAL5:=qe (show ∀X,Below w.heap.size w X→X.heap[b6]? =w5.heap[b6]?→Below w.heap.size w X∧X.cell? ⟨t,0,none⟩=some (qW z)∧X.cell? ⟨b6,0,none⟩=some (.string y.owner)∧X.cell? ⟨b6,1,none⟩=some (.int .i64 y.typ)∧X.cell? ⟨b6,2,none⟩=some (.int .i64 y.cls)∧X.cell? ⟨b6,3,none⟩=some (.int .i64 y.ttl)∧X.cell? ⟨b6,4,none⟩=some (.string y.data) from fun X hX h6X=>
         ⟨hX,(HT.out.below hX).2.2.1,uj.cells (show uj X b6 y from h6X.trans HN5.out)⟩)
        have HAX:=qe (show ∀X:World,Below w.heap.size w X→Calls Tryz.prog 24 #[qW z] X fun e w'=>e= .returned (.string Z.ap)∧w'=X from fun X hX=>by
         obtain⟨_,_,_,_,_,_,_,h2,_⟩:=(HZ.out.kept hX).v.parts;exact xw z Z.ap _ _ _ X h2)
        have HMD:=qe (show ∀(X:World) (u:Value),qm X u (L ++ [y])→Calls Tryz.prog 140 #[.string Z.ap,u] X fun e w'=>jC Z.ap (L ++ [y]) X e w' from fun X u hu=>
         made_any Z.ap (L ++ [y]) (fun r hr=>by
          rcases List.mem_append.1 hr with h | h
          ·exact HST.out.wf r h
          ·rw[List.mem_singleton.1 h];exact HYWF.out) u (UE hu (by simp)) X hu)
        have HLN:=qe (show L.length+([y]:List Rec).length≤1000000000 by have:=HST.out.len;have:=HLT.out;have:=HL.out;simp only[List.length_singleton];omega);clear x0 x1 x2 x3 x4;go_upto_region 12 with fail
        go_region_held3 (fun X=>Below w.heap.size w X∧X.cell? ⟨t,0,none⟩=some (qW z)∧X.cell? ⟨b6,0,none⟩=some (.string y.owner)∧X.cell? ⟨b6,1,none⟩=some (.int .i64 y.typ)∧X.cell? ⟨b6,2,none⟩=some (.int .i64 y.cls)∧X.cell? ⟨b6,3,none⟩=some (.int .i64 y.ttl)∧X.cell? ⟨b6,4,none⟩=some (.string y.data))
         (first | assumption | exact HAL5.out _ kS.out.drew rfl | exact HAL5.out _ J5 hbX6 | exact HAL5.out _ hbP hbP6 | exact HAL5.out _ (kS.out.drew.alloc kS.out.size _) (((Below.refl w5.heap.size w5).drew.alloc (Nat.le_refl _) _).block b6 (yo HN5.out)))
         (first
          | (go_at_call 24;(first | (with_reducible refine(HAX.out _ hbP).mono ?_) | (with_reducible refine(HAX.out _ kS.out.drew).mono ?_) | refine(HAX.out _ (kS.out.drew.alloc kS.out.size _)).mono ?_);rintro e wN ⟨rfl,hE⟩;obtain rfl:=hE.symm;clear hE)
          | (go_at_call 140;(with_reducible refine(HMD.out _ _ (qD (jl rfl rfl hoP))).mono ?_);intro e wX hpp;obtain⟨hbX,r1',r2',rfl,hpp⟩:=hpp.two;have J5:=hbP.trans (hbX.mono hbP.size);have hbX6:=(hbX.block b6 (yo (hbP6.trans HN5.out))).trans hbP6)
          | (refine xO rfl _ _ rfl w.heap.size _ _ _ rfl (ownsRow_below HST.out.own (QO.out.drew.alloc QO.out.size _)) _ (yK (jK (w:=w5.drew) (base:=w.heap.size) y rfl kS.out.size)) _ (qD (jK (w:=w5.drew) (base:=w.heap.size) y rfl kS.out.size)) rfl HLN.out (Below.size (kS.out.drew.alloc kS.out.size _)) ?_;intro vP wP hoP hgP hnP;have hbP:=(kS.out.drew.alloc kS.out.size _).grown hgP (Below.size (kS.out.drew.alloc kS.out.size _)) (fun q hq=>(HST.out.own.lt q hq).1);have hbP6:=(hgP.block b6 (Nat.lt_of_lt_of_le (yo HN5.out) (Below.size ((Below.refl w5.heap.size w5).drew.alloc (Nat.le_refl _) _))) (fun e=>HST.out.far b6 e.symm rfl)).trans (((Below.refl w5.heap.size w5).drew.alloc (Nat.le_refl _) _).block b6 (yo HN5.out))))
        all_goals (go_wp2_with fail;go_ret2;rw[HMK.out];exact⟨J5,hpp.2⟩)
       ·have ekx:¬(y=x):=hyx;have hr:=HRUN.out;rw[tr.U4 h6 rfl (fun h=>hyx h.2),HK.out]at hr;have HR6:=qe hr;clear hr h6 hkm hdk hyx
        go_quiet (fail)
        obtain⟨w5,hw5⟩:∃X,X=w4.drewN nq:=⟨_,rfl⟩;rw[← hw5];have jO:=qe (show Below w4.heap.size w4 w5 from by rw[hw5];exact zO (Below.refl _ _) nq);clear hw5;clear x0 x1 x2 x3 x4 n0 n1 n2 n3 n4;clear q0 q3 r0 r1 r2 r3 r4;have kS:=qe (Y1.out.trans (jO.out.mono Y1.out.size));have QO:=qe (HB4.out.trans (jO.out.mono HB4.out.size));obtain⟨-,-,q0,-,-,q3⟩:=HT.out.below kS.out;rw[← HM.out]at q3;obtain⟨-,r0,r1,r2,r3,r4⟩:=qL (HR.out.below kS.out) (j:=0) (by simp);simp only[List.getElem_cons_zero,Nat.zero_mul,Nat.add_zero]at r0 r1 r2 r3 r4;obtain⟨x0,x1,x2,x3,x4⟩:=uj.cells (HXB.out.below jO.out);have HN5:=qe (HNB.out.below jO.out);obtain⟨n0,n1,n2,n3,n4⟩:=uj.cells HN5.out;have HT8:=qe (HST.out.moved QO.out HR6.out);clear HR6;go_wp2_with fail
        go_roundw
        case rel=>exact⟨k0+1,k+1,_,_,_,_,_,by have:=HK.out;omega,HLT.out,by go_num,rfl,rfl,rfl,(fun _=>rfl),HT8⟩
        case measure=>simp[intOf];omega
      ·have ekm:((k:Int) == (m:Int)-1)=false:=by rw[beq_eq_false_iff_ne];exact hkm
       have hr:=HRUN.out;rw[tr.U4 h6 rfl (fun h=>hkm (by have:=List.drop_eq_nil_iff.1 h.1;have:=HM2.out;have:=HLT.out;have:=HK.out;omega)),HK.out]at hr;have HR6:=qe hr;clear hr h6 hkm
       go_quiet (fail)
       obtain⟨w5,hw5⟩:∃X,X=w4.drewN nq:=⟨_,rfl⟩;rw[← hw5];have jO:=qe (show Below w4.heap.size w4 w5 from by rw[hw5];exact zO (Below.refl _ _) nq);clear hw5;clear x0 x1 x2 x3 x4 n0 n1 n2 n3 n4;clear q0 q3 r0 r1 r2 r3 r4;have kS:=qe (Y1.out.trans (jO.out.mono Y1.out.size));have QO:=qe (HB4.out.trans (jO.out.mono HB4.out.size));obtain⟨-,-,q0,-,-,q3⟩:=HT.out.below kS.out;rw[← HM.out]at q3;obtain⟨-,r0,r1,r2,r3,r4⟩:=qL (HR.out.below kS.out) (j:=0) (by simp);simp only[List.getElem_cons_zero,Nat.zero_mul,Nat.add_zero]at r0 r1 r2 r3 r4;obtain⟨x0,x1,x2,x3,x4⟩:=uj.cells (HXB.out.below jO.out);have HN5:=qe (HNB.out.below jO.out);obtain⟨n0,n1,n2,n3,n4⟩:=uj.cells HN5.out;have HT8:=qe (HST.out.moved QO.out HR6.out);clear HR6;go_wp2_with fail
       go_roundw
       case rel=>exact⟨k0+1,k+1,_,_,_,_,_,by have:=HK.out;omega,HLT.out,by go_num,rfl,rfl,rfl,(fun _=>rfl),HT8⟩
       case measure=>simp[intOf];omega
     ·have HE:=qe (show ∀X,Below w4.heap.size w4 X→xM (tr.uP Z x tl) (qW z) w (.returned (.tuple #[.pointer none,kD 30])) X from fun X hX=>by
       have h:=HRUN.out;rw[tr.run_old h6 hyn]at h;rw[tr.JH h.symm (by decide)];exact⟨by decide,Y1.out.trans (hX.mono Y1.out.size),rfl⟩)
      clear h6
      go_quiet (fail)
      obtain⟨w5,hw5⟩:∃X,X=w4.drewN nq:=⟨_,rfl⟩;rw[← hw5];have jO:=qe (show Below w4.heap.size w4 w5 from by rw[hw5];exact zO (Below.refl _ _) nq);clear hw5;clear x0 x1 x2 x3 x4 n0 n1 n2 n3 n4;clear q0 q3 r0 r1 r2 r3 r4;have kS:=qe (Y1.out.trans (jO.out.mono Y1.out.size));have QO:=qe (HB4.out.trans (jO.out.mono HB4.out.size));obtain⟨-,-,q0,-,-,q3⟩:=HT.out.below kS.out;rw[← HM.out]at q3;obtain⟨-,r0,r1,r2,r3,r4⟩:=qL (HR.out.below kS.out) (j:=0) (by simp);simp only[List.getElem_cons_zero,Nat.zero_mul,Nat.add_zero]at r0 r1 r2 r3 r4;obtain⟨x0,x1,x2,x3,x4⟩:=uj.cells (HXB.out.below jO.out);have HN5:=qe (HNB.out.below jO.out);obtain⟨n0,n1,n2,n3,n4⟩:=uj.cells HN5.out;go_wp2_with fail;go_ret2;exact HE.out w5 jO.out
    ·have hr:=HRUN.out;rw[tr.run_turn h6,HK.out]at hr;have HR6:=qe hr;clear hr h6
     go_quiet (fail)
     obtain⟨w5,hw5⟩:∃X,X=w4.drewN nq:=⟨_,rfl⟩;rw[← hw5];have jO:=qe (show Below w4.heap.size w4 w5 from by rw[hw5];exact zO (Below.refl _ _) nq);clear hw5;clear x0 x1 x2 x3 x4 n0 n1 n2 n3 n4;clear q0 q3 r0 r1 r2 r3 r4;have kS:=qe (Y1.out.trans (jO.out.mono Y1.out.size));have QO:=qe (HB4.out.trans (jO.out.mono HB4.out.size));obtain⟨-,-,q0,-,-,q3⟩:=HT.out.below kS.out;rw[← HM.out]at q3;obtain⟨-,r0,r1,r2,r3,r4⟩:=qL (HR.out.below kS.out) (j:=0) (by simp);simp only[List.getElem_cons_zero,Nat.zero_mul,Nat.add_zero]at r0 r1 r2 r3 r4;obtain⟨x0,x1,x2,x3,x4⟩:=uj.cells (HXB.out.below jO.out);have HN5:=qe (HNB.out.below jO.out);obtain⟨n0,n1,n2,n3,n4⟩:=uj.cells HN5.out;have f0:=qE HN5.out 0;have f1:=qE HN5.out 1;have f2:=qE HN5.out 2;have f3:=qE HN5.out 3;have f4:=qE HN5.out 4;have HT6:=qe (HST.out.turned H6L.out QO.out HYWF.out HR6.out);clear HR6 HN5 HNB;go_wp2_with fail
     go_roundw
     case rel=>exact⟨k0+1,k+1,_,_,_,_,_,by have:=HK.out;omega,HLT.out,by go_num,rfl,rfl,rfl,(fun h=>by cases h),HT6⟩
     case measure=>simp[intOf];omega
   ·have d6:(y.typ == 6)=false:=by rw[beq_eq_false_iff_ne];exact h6
    cases goes
    ·obtain⟨hm,hhm⟩:∃b,b=decide (y∈L):=⟨_,rfl⟩;have HHM:=qe hhm;have HCO:=qe (show ∀X,Below wr3.heap.size wr3 X→Calls Tryz.prog 142 #[lv,ym y] X fun e w'=>e= .returned (.bool hm)∧Below X.heap.size X w' from fun X hX=>by
      rw[hhm];exact contains_any L (by have:=HST.out.len;have:=HLT.out;have:=HL.out;omega) y lv X (qD (ownsRow_below HST.out.own hX)))
     have HY6:=qe h6;clear h6 hhm
     go_quiet (fail)
     obtain⟨w5,hw5⟩:∃X,X=w4.drewN nq:=⟨_,rfl⟩;rw[← hw5];have jO:=qe (show Below w4.heap.size w4 w5 from by rw[hw5];exact zO (Below.refl _ _) nq);clear hw5;clear x0 x1 x2 x3 x4 n0 n1 n2 n3 n4;clear q0 q3 r0 r1 r2 r3 r4;have kS:=qe (Y1.out.trans (jO.out.mono Y1.out.size));have QO:=qe (HB4.out.trans (jO.out.mono HB4.out.size));obtain⟨-,-,q0,-,-,q3⟩:=HT.out.below kS.out;rw[← HM.out]at q3;obtain⟨-,r0,r1,r2,r3,r4⟩:=qL (HR.out.below kS.out) (j:=0) (by simp);simp only[List.getElem_cons_zero,Nat.zero_mul,Nat.add_zero]at r0 r1 r2 r3 r4;obtain⟨x0,x1,x2,x3,x4⟩:=uj.cells (HXB.out.below jO.out);have HN5:=qe (HNB.out.below jO.out);obtain⟨n0,n1,n2,n3,n4⟩:=uj.cells HN5.out;go_upto_region 8 with fail;go_wp2_with fail;refine(HCO.out w5 QO.out).mono ?_;rintro e w6 ⟨rfl,hB6⟩;have XB:=qe (QO.out.trans (hB6.mono QO.out.size));have HX6:=qe (show uj w6 b10 y from(hB6.block b10 (Nat.lt_of_lt_of_le (yo HXB.out) jO.out.size)).trans ((jO.out.block b10 (yo HXB.out)).trans HXB.out));have HB06:=qe (kS.out.trans (hB6.mono kS.out.size));clear hB6 q0 q3 r0 r1 r2 r3 r4;clear x0 x1 x2 x3 x4 n0 n1 n2 n3 n4
     cases hm
     ·have hr:=HRUN.out;rw[tr.run_add HY6.out (of_decide_eq_false HHM.out.symm),HK.out]at hr;have HR6:=qe hr;clear hr;obtain⟨x0,x1,x2,x3,x4⟩:=uj.cells HX6.out;obtain⟨w7,hw⟩:∃X,X=w6.alloc (.cells (recC y).toArray 80):=⟨_,rfl⟩;obtain⟨hBn,-,-⟩:=qY w6 w7 y hw;obtain⟨gw7,hg⟩:∃b,b=w6.heap.size:=⟨_,rfl⟩;have hon:=jK (base:=w.heap.size) y hw HB06.out.size;rw[← hg]at hon;have HWw7:=qe hw;have HGw7:=qe hg;have UL:=qe hon;have HBNw7:=qe hBn;clear hw hg hon hBn;have HB37:=qe (XB.out.trans (HBNw7.out.mono XB.out.size));have HO7:=qe (ownsRow_below HST.out.own HB37.out);go_wp2_with (at_builtin;rw[← HWw7.out,← HGw7.out];refine q9 rfl _ _ rfl w.heap.size _ _ _ rfl HO7.out _ (yK UL.out) _ (qD UL.out) rfl (by have:=HST.out.len;have:=HLT.out;have:=HL.out;simp only[List.length_singleton];omega) (Nat.le_trans HST.out.below.size HB37.out.size) ?_);intro v8 w8 Kk hg8 hn8;have HT8:=qe (HST.out.more HB37.out HYWF.out hg8 hn8 (jl rfl rfl Kk) HR6.out);clear x0 x1 x2 x3 x4 Kk hg8 hn8 HR6;go_wp2_with fail
      go_roundw
      case rel=>exact⟨k0+1,k+1,_,_,_,_,_,by have:=HK.out;omega,HLT.out,by go_num,rfl,rfl,rfl,(fun h=>by cases h),HT8⟩
      case measure=>simp[intOf];omega
     ·have HE:=qe (show xM (tr.uP Z x tl) (qW z) w (.returned (.tuple #[.pointer none,kD 19])) w6 from by
       have h:=HRUN.out;rw[tr.run_twice HY6.out (of_decide_eq_true HHM.out.symm)]at h;rw[tr.JH h.symm (by decide)];exact⟨by decide,HB06.out,rfl⟩)
      go_wp2_with fail;go_ret2;exact HE.out
    ·obtain rfl:beg=true:=HGB.out rfl;have HIX:=qe (show ∀X,Below wr3.heap.size wr3 X→Calls Tryz.prog 141 #[lv,ym y] X fun e w'=>e= .returned (.int .i64 (tr.Q9 L y))∧Below X.heap.size X w' from fun X hX=>
      Vt L (by have:=HST.out.len;have:=HLT.out;have:=HL.out;omega) y lv X (qD (ownsRow_below HST.out.own hX)))
     have HY6:=qe h6;clear h6
     go_quiet (fail)
     obtain⟨w5,hw5⟩:∃X,X=w4.drewN nq:=⟨_,rfl⟩;rw[← hw5];have jO:=qe (show Below w4.heap.size w4 w5 from by rw[hw5];exact zO (Below.refl _ _) nq);clear hw5;clear x0 x1 x2 x3 x4 n0 n1 n2 n3 n4;clear q0 q3 r0 r1 r2 r3 r4;have kS:=qe (Y1.out.trans (jO.out.mono Y1.out.size));have QO:=qe (HB4.out.trans (jO.out.mono HB4.out.size));obtain⟨-,-,q0,-,-,q3⟩:=HT.out.below kS.out;rw[← HM.out]at q3;obtain⟨-,r0,r1,r2,r3,r4⟩:=qL (HR.out.below kS.out) (j:=0) (by simp);simp only[List.getElem_cons_zero,Nat.zero_mul,Nat.add_zero]at r0 r1 r2 r3 r4;obtain⟨x0,x1,x2,x3,x4⟩:=uj.cells (HXB.out.below jO.out);have HN5:=qe (HNB.out.below jO.out);obtain⟨n0,n1,n2,n3,n4⟩:=uj.cells HN5.out;go_upto_region 20 with fail;go_wp2_with fail;refine(HIX.out w5 QO.out).mono ?_;rintro e w6 ⟨rfl,hB6⟩;have XB:=qe (QO.out.trans (hB6.mono QO.out.size));have HB06:=qe (kS.out.trans (hB6.mono kS.out.size));clear hB6 q0 q3 r0 r1 r2 r3 r4;clear x0 x1 x2 x3 x4 n0 n1 n2 n3 n4;by_cases hyl:y∈L
     ·obtain⟨j,hj,hjy,hji,hje⟩:=idx_in7 hyl;have hr:=HRUN.out;have hje2:L.erase y=L.eraseIdx j:=by rw[hje,List.eraseIdx_eq_take_drop_succ]
      rw[tr.run_del HY6.out hyl,HK.out,hje2]at hr;have HR6:=qe hr;obtain⟨j1,hj1⟩:∃k,k=j+1:=⟨_,rfl⟩;have HDL:=qe (Xb L (by have:=HST.out.len;have:=HLT.out;have:=HL.out;omega) j j1 hj hj1 w.heap.size lv w6 (ownsRow_below HST.out.own XB.out));have ej:IntKind.i64.wrap ((j:Int)+1)=(j1:Int):=by rw[hj1];exact IntWalk.i64_in _ (by have:=HST.out.len;have:=HLT.out;have:=HL.out;omega)
      have ej2:¬((j:Int)<0):=by omega
      have HJ:=qe hj;rw[hji];clear hr hyl hj hjy hji hje hje2 hj1;go_wp2_with fail;refine HDL.out.mono ?_;rintro e w7 ⟨v7,rfl,ho7,hg7,hw7⟩;have HT8:=qe (HST.out.less XB.out HJ.out ho7 hg7 hw7 HR6.out);clear ho7 hg7 hw7 HDL HR6 ej ej2;go_wp2_with fail
      go_roundw
      case rel=>exact⟨k0+1,k+1,_,_,_,_,_,by have:=HK.out;omega,HLT.out,by go_num,rfl,rfl,rfl,(fun _=>rfl),HT8⟩
      case measure=>simp[intOf];omega
     ·have hni:tr.Q9 L y= -1:=by unfold tr.Q9;exact df.Jk fun j hj=>decide_eq_false fun h=>hyl (h ▸ List.getElem_mem hj)
      rw[hni];have HE:=qe (show xM (tr.uP Z x tl) (qW z) w (.returned (.tuple #[.pointer none,kD 28])) w6 from by
       have h:=HRUN.out;rw[tr.run_none HY6.out hyl]at h;rw[tr.JH h.symm (by decide)];exact⟨by decide,HB06.out,rfl⟩)
      clear hni hyl;go_wp2_with fail;go_ret2;exact HE.out
  ·have hk2:¬(k:Int)<(m:Int):=by have:=HM2.out;omega
   have hr:=HST.out.run;rw[List.drop_of_length_le (by omega),tr.run_nil]at hr;have HE:=qe (show xM (tr.uP Z x tl) (qW z) w (.returned (.tuple #[.pointer none,kD 10])) wr3 from by
    rw[tr.JH hr.symm (by decide)];exact⟨by decide,hB3,rfl⟩)
   clear hr hB3 hk hk0 hlt hgb;go_wp2_with fail;go_ret2;exact HE.out
end Go.Proofs.YtpcmilhjpmlbpaaGreatDoor
namespace Go.Proofs.YtpcmilhjpmlbpaaGreatDoor
open Go.RowKit Go.Shelf nm od
def StepZ (w:World)(s:Bool)(zv:Value)(Zo:Option tr.Zn):Prop:=(s=false∧Zo=none)∨(s=true∧∃A z,Zo=some A∧zv=qW z∧tr.Ok A∧jA w w.heap.size z A.ap A.l)
theorem xM.two {o:tr.Out}{zv:Value}{w w':World}{e:Ending}(h:xM o zv w e w'):Below w.heap.size w w'∧∃r1 r2,e= .returned (.tuple #[r1,r2])∧xM o zv w (.returned (.tuple #[r1,r2])) w':=by
 cases o with
 | err c=>obtain⟨h1,h2,rfl⟩:=h;exact⟨h2,_,_,rfl,h1,h2,rfl⟩
 | same=>obtain⟨h1,rfl⟩:=h;exact⟨h1,_,_,rfl,h1,rfl⟩
 | make ap l=>exact jC.two h
theorem ttake_any (t:Nat)(zv:Value)(Zo:Option tr.Zn)(n:ByteArray)(s:Bool)(x:Rec)(tl:List Rec)(hl:tl.length≤10000000)(hok:∀r∈x :: tl,(Lit.int .i64 r.typ).wf=true)(hx:¬(x.typ≠6∨x.data.size=0∨qF x.owner n=false))(hd:20≤x.data.size∧x.data.size≤65535)
 (v:Value) (w:World) (hz:StepZ w s zv Zo) (ht:KT w t zv n s (x :: tl) v):
 Calls Tryz.prog 52 #[.pointer (some ⟨t,0,none⟩)] w fun e w'=>xM (tr.Q0 Zo n (x :: tl)) zv w e w':=by
 obtain⟨hr,htl,c0,c1,c2,c3⟩:=id ht;obtain⟨va,vc,rfl,hvc,-⟩:=id hr;obtain⟨b,off,rfl⟩:=vk hr (by simp);obtain⟨m,hm⟩:∃m,m=(x :: tl).length:=⟨_,rfl⟩;have hm2:m=tl.length+1:=by rw[hm];rfl
 have HT:=qe ht;have HR:=qe hr;have HM:=qe hm;have HM2:=qe hm2;have HOK:=qe hok;have HX:=qe hx;have HD:=qe hd;have HVC:=qe hvc;have HL:=qe hl;have HZ:=qe hz;have HB0:=qe (Below.refl w.heap.size w);clear hr hm hm2 hok hx hd hvc hl c0 c1 c2 c3 hz ht;obtain⟨-,-,q0,-,q2,q3⟩:=HT.out.below HB0.out;rw[← HM.out]at q3;obtain⟨-,r0,r1,r2,r3,r4⟩:=qL (HR.out.below HB0.out) (j:=0) (by simp);simp only[List.getElem_cons_zero,Nat.zero_mul,Nat.add_zero]at r0 r1 r2 r3 r4;have e0:0<m:=by have:=HM2.out;omega
 have e9:m≤10000001:=by have:=HM2.out;have:=HL.out;omega
 by_cases htl0:tl= []
 ·subst htl0;have e1:((m:Int) == 1)=true:=by rw[beq_iff_eq];have:=HM2.out;simp only[List.length_nil]at this;omega
  cases s
  ·have hzo:Zo=none:=by
    rcases HZ.out with h | h
    ·exact h.2
    ·exact absurd h.1 (by decide)
   subst hzo;have HP:=qe (show tr.Q0 none n [x]= .err 10 from by rw[tr.Ui HX.out];rfl)
   go_enter Tryz.func52,Tryz.ntmps52
   go_upto_region 1 with fail
   go_quiet (fail)
   obtain⟨w1,hW⟩:∃X,X=w.drewN nq:=⟨_,rfl⟩;rw[← hW];have HB1:=qe (show Below w.heap.size w w1 from by rw[hW];exact zO (Below.refl _ _) nq);clear hW;clear q0 q2 q3 r0 r1 r2 r3 r4;obtain⟨-,-,q0,-,q2,q3⟩:=HT.out.below HB1.out;rw[← HM.out]at q3;obtain⟨-,r0,r1,r2,r3,r4⟩:=qL (HR.out.below HB1.out) (j:=0) (by simp);simp only[List.getElem_cons_zero,Nat.zero_mul,Nat.add_zero]at r0 r1 r2 r3 r4;go_wp2_with fail;go_ret2;rw[HP.out];exact⟨by decide,HB1.out,rfl⟩
  ·obtain⟨A,z,rfl,rfl,hok,hzf⟩:∃A z,Zo=some A∧zv=qW z∧tr.Ok A∧jA w w.heap.size z A.ap A.l:=by
    rcases HZ.out with h | h
    ·exact absurd h.1 (by decide)
    ·exact h.2
   obtain⟨nb,hnb⟩:∃nb,nb=tr.zR (up.QI x.data) (tr.yA A):=⟨_,rfl⟩;have HNB:=qe hnb;have zD:=qe (show ∀X,Below w.heap.size w X→Below w.heap.size w X∧X.cell? ⟨t,0,none⟩=some (qW z)∧X.cell? ⟨t,2,none⟩=some (.bool true)∧X.cell? ⟨t,3,none⟩=some (.slice (some ⟨b,off,none⟩) m vc)∧X.cell? ⟨b,off,none⟩=some (.string x.owner)∧X.cell? ⟨b,off+1,none⟩=some (.int .i64 x.typ)∧X.cell? ⟨b,off+2,none⟩=some (.int .i64 x.cls)∧X.cell? ⟨b,off+3,none⟩=some (.int .i64 x.ttl)∧X.cell? ⟨b,off+4,none⟩=some (.string x.data) from fun X hX=>by
    obtain⟨-,-,q0,-,q2,q3⟩:=HT.out.below hX;rw[← HM.out]at q3;obtain⟨-,r0,r1,r2,r3,r4⟩:=qL (HR.out.below hX) (j:=0) (by simp);simp only[List.getElem_cons_zero,Nat.zero_mul,Nat.add_zero]at r0 r1 r2 r3 r4;exact⟨hX,q0,q2,q3,r0,r1,r2,r3,r4⟩)
   have HSE:=qe (show ∀X:World,Calls Tryz.prog 68 #[ym x] X fun e w'=>e= .returned (.int .i64 (up.QI x.data))∧Below X.heap.size X w' from fun X=>VK x HD.out.1 (by have:=HD.out.2;omega) X);have HSZ:=qe (show ∀X:World,Below w.heap.size w X→Calls Tryz.prog 61 #[qW z] X fun e w'=>e= .returned (.int .i64 (tr.yA A))∧Below X.heap.size X w' from fun X hX=>JL _ z A hok X (hzf.kept hX));have HNW:=qe (show ∀X:World,Calls Tryz.prog 8 #[.int .i64 (up.QI x.data),.int .i64 (tr.yA A)] X fun e w'=>e= .returned (.bool nb)∧w'=X from fun X=>by rw[hnb];exact JR _ _ X);have HP:=qe (show tr.Q0 (some A) n [x]=if nb=false then .same else .err 10 from by rw[tr.Qh HX.out,hnb];rfl);clear hnb hok hzf
   go_enter Tryz.func52,Tryz.ntmps52
   go_upto_region 1 with fail
   go_cut [4] (fun sv wx=>sv= .bool (!nb)∧Below w.heap.size w wx)
   case first=>
    go_region_held3 (fun X=>Below w.heap.size w X∧X.cell? ⟨t,0,none⟩=some (qW z)∧X.cell? ⟨t,2,none⟩=some (.bool true)∧X.cell? ⟨t,3,none⟩=some (.slice (some ⟨b,off,none⟩) m vc)∧X.cell? ⟨b,off,none⟩=some (.string x.owner)∧X.cell? ⟨b,off+1,none⟩=some (.int .i64 x.typ)∧X.cell? ⟨b,off+2,none⟩=some (.int .i64 x.cls)∧X.cell? ⟨b,off+3,none⟩=some (.int .i64 x.ttl)∧X.cell? ⟨b,off+4,none⟩=some (.string x.data))
     (first | assumption | exact zD.out _ (Below.refl _ _).drew | (go_split_ands;exact zD.out _ (by assumption)))
     (first
      | (go_at_call 68;(with_reducible refine(HSE.out _).mono ?_);rintro e wX ⟨rfl,hbX⟩;go_split_ands;have J5:=Below.trans (B:=w.heap.size) (a:=w) (by assumption) (hbX.mono (Below.size (by assumption))))
      | (go_at_call 61;(with_reducible refine(HSZ.out _ (by go_split_ands;assumption)).mono ?_);rintro e wX ⟨rfl,hbX⟩;go_split_ands;have J5:=Below.trans (B:=w.heap.size) (a:=w) (by assumption) (hbX.mono (Below.size (by assumption))))
      | (go_at_call 8;(with_reducible refine(HNW.out _).mono ?_);rintro e wN ⟨rfl,hE⟩;obtain rfl:=hE.symm;clear hE))
    all_goals (go_wp2_with fail;go_meet;exact⟨rfl,by first | assumption | (go_split_ands;assumption)⟩)
   obtain⟨rfl,hB1⟩:=hcut;have HB1:=qe hB1;clear hB1;obtain⟨w1,hw1⟩:∃X:World,X=wc:=⟨_,rfl⟩;subst hw1;clear q0 q2 q3 r0 r1 r2 r3 r4;obtain⟨-,-,q0,-,q2,q3⟩:=HT.out.below HB1.out;rw[← HM.out]at q3;obtain⟨-,r0,r1,r2,r3,r4⟩:=qL (HR.out.below HB1.out) (j:=0) (by simp);simp only[List.getElem_cons_zero,Nat.zero_mul,Nat.add_zero]at r0 r1 r2 r3 r4
   cases nb
   ·go_wp2_with fail;go_ret2;rw[HP.out];exact⟨HB1.out,rfl⟩
   ·go_wp2_with fail;go_ret2;rw[HP.out];exact⟨by decide,HB1.out,rfl⟩
 ·obtain⟨x2,t2,rfl⟩:∃x2 t2,tl=x2 :: t2:=by
   match tl,htl0 with
   | y :: t,_=>exact⟨y,t,rfl⟩
   | [],h=>exact absurd rfl h
  have hm3:m=t2.length+2:=by have:=HM2.out;simp only[List.length_cons]at this;omega
  have e1:((m:Int) == 1)=false:=by rw[beq_eq_false_iff_ne];omega
  have HM3:=qe hm3;have e3:1<m:=by omega
  have e4:(1:Int)<(m:Int):=by omega
  have h2:=qL HR.out (j:=1) (by simp);have HB2:=qe h2.1;have HY:=qe (show ∀X,Below w.heap.size w X→X.cell? ⟨b,off+5+1,none⟩=some (.int .i64 x2.typ) from fun X hX=>(hX.cell (p:=⟨b,_,none⟩) HB2.out).trans h2.2.2.1);clear hm3 h2 htl0;have HAL:=qe (show ∀X,Below w.heap.size w X→Calls Tryz.prog 91 #[.pointer (some ⟨t,0,none⟩)] X fun e w'=>xM (tr.YY n x (x2 :: t2)) zv X e w' from fun X hX=>
   all_any t zv n s x (x2 :: t2) (by simp) (by have:=HL.out;simp only[List.length_cons]at this ⊢;omega) HOK.out _ X (HT.out.below hX))
  cases s
  ·have hzo:Zo=none:=by
    rcases HZ.out with h | h
    ·exact h.2
    ·exact absurd h.1 (by decide)
   subst hzo;have HP:=qe (show tr.Q0 none n (x :: x2 :: t2)=tr.YY n x (x2 :: t2) from by rw[tr.Ui HX.out];rfl)
   go_enter Tryz.func52,Tryz.ntmps52
   go_upto_region 1 with fail
   go_quiet (fail)
   obtain⟨w1,hW⟩:∃X,X=w.drewN nq:=⟨_,rfl⟩;rw[← hW];have HB1:=qe (show Below w.heap.size w w1 from by rw[hW];exact zO (Below.refl _ _) nq);clear hW;clear q0 q2 q3 r0 r1 r2 r3 r4;obtain⟨-,-,q0,-,q2,q3⟩:=HT.out.below HB1.out;rw[← HM.out]at q3;obtain⟨-,r0,r1,r2,r3,r4⟩:=qL (HR.out.below HB1.out) (j:=0) (by simp);simp only[List.getElem_cons_zero,Nat.zero_mul,Nat.add_zero]at r0 r1 r2 r3 r4;go_wp2_with fail;refine(HAL.out w1 HB1.out).mono ?_;intro e w2 hp;obtain⟨-,r1',r2',rfl,hp⟩:=hp.two;have HQ:=qe (xM.from HB1.out hp);clear hp;clear q0 q2 q3 r0 r1 r2 r3 r4;go_wp2_with fail;go_ret2;rw[HP.out];exact HQ.out
  ·obtain⟨A,z,rfl,rfl,hoA,hzf⟩:∃A z,Zo=some A∧zv=qW z∧tr.Ok A∧jA w w.heap.size z A.ap A.l:=by
    rcases HZ.out with h | h
    ·exact absurd h.1 (by decide)
    ·exact h.2
   by_cases h6:x2.typ=6
   ·have HST:=qe (show ∀X,Below w.heap.size w X→Calls Tryz.prog 90 #[.pointer (some ⟨t,0,none⟩)] X fun e w'=>xM (tr.uP A x (x2 :: t2)) (qW z) X e w' from fun X hX=>
     tsteps_any t z _ A hoA n true x (x2 :: t2) (by have:=HL.out;omega) HOK.out _ X (hzf.kept hX) (HT.out.below hX))
    have HP:=qe (show tr.Q0 (some A) n (x :: x2 :: t2)=tr.uP A x (x2 :: t2) from by rw[tr.Qh HX.out,if_neg (by simp)];exact if_pos h6);have d6:(x2.typ == 6)=true:=by rw[beq_iff_eq];exact h6
    clear hoA hzf h6
    go_enter Tryz.func52,Tryz.ntmps52
    go_upto_region 1 with fail
    go_quiet (fail)
    obtain⟨w1,hW⟩:∃X,X=w.drewN nq:=⟨_,rfl⟩;rw[← hW];have HB1:=qe (show Below w.heap.size w w1 from by rw[hW];exact zO (Below.refl _ _) nq);clear hW;clear q0 q2 q3 r0 r1 r2 r3 r4;obtain⟨-,-,q0,-,q2,q3⟩:=HT.out.below HB1.out;rw[← HM.out]at q3;obtain⟨-,r0,r1,r2,r3,r4⟩:=qL (HR.out.below HB1.out) (j:=0) (by simp);simp only[List.getElem_cons_zero,Nat.zero_mul,Nat.add_zero]at r0 r1 r2 r3 r4;have y1:=HY.out w1 HB1.out;go_upto_region 5 with fail;go_wp2_with fail;refine(HST.out w1 HB1.out).mono ?_;clear y1;intro e w2 hp;obtain⟨-,r1',r2',rfl,hp⟩:=hp.two;have HQ:=qe (xM.from HB1.out hp);clear hp;clear q0 q2 q3 r0 r1 r2 r3 r4;go_wp2_with fail;go_ret2;rw[HP.out];exact HQ.out
   ·have HP:=qe (show tr.Q0 (some A) n (x :: x2 :: t2)=tr.YY n x (x2 :: t2) from by rw[tr.Qh HX.out,if_neg (by simp)];exact if_neg h6);have d6:(x2.typ == 6)=false:=by rw[beq_eq_false_iff_ne];exact h6
    clear hoA hzf h6
    go_enter Tryz.func52,Tryz.ntmps52
    go_upto_region 1 with fail
    go_quiet (fail)
    obtain⟨w1,hW⟩:∃X,X=w.drewN nq:=⟨_,rfl⟩;rw[← hW];have HB1:=qe (show Below w.heap.size w w1 from by rw[hW];exact zO (Below.refl _ _) nq);clear hW;clear q0 q2 q3 r0 r1 r2 r3 r4;obtain⟨-,-,q0,-,q2,q3⟩:=HT.out.below HB1.out;rw[← HM.out]at q3;obtain⟨-,r0,r1,r2,r3,r4⟩:=qL (HR.out.below HB1.out) (j:=0) (by simp);simp only[List.getElem_cons_zero,Nat.zero_mul,Nat.add_zero]at r0 r1 r2 r3 r4;have y1:=HY.out w1 HB1.out;go_wp2_with fail;refine(HAL.out w1 HB1.out).mono ?_;clear y1;intro e w2 hp;obtain⟨-,r1',r2',rfl,hp⟩:=hp.two;have HQ:=qe (xM.from HB1.out hp);clear hp;clear q0 q2 q3 r0 r1 r2 r3 r4;go_wp2_with fail;go_ret2;rw[HP.out];exact HQ.out
end Go.Proofs.YtpcmilhjpmlbpaaGreatDoor
