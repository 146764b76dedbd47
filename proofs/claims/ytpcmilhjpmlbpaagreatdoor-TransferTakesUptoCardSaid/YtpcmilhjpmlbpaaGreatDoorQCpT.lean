import Derived.Test.YtpcmilhjpmlbpaaGreatDoorQCpN
import Derived.Deep.RegionWith
set_option maxRecDepth 100000
set_option maxHeartbeats 16000000
namespace Go.Proofs.YtpcmilhjpmlbpaaGreatDoor
open Go.RowKit Go.Shelf nm od
theorem wf_zone {Z:tr.Zn}(hv:tr.Ok Z){r:Rec}(hr:r∈Z.l):(Lit.int .i64 r.typ).wf=true:=by
 have h:=tr.vw hv hr;unfold wi.qP wi.inB at h;simp only[gX,H7]at h;obtain⟨⟨⟨⟨-,h1⟩,-⟩,-⟩,-⟩:=h;simp only[Lit.wf,gX,H7];have e1:IntKind.i64.min= -9223372036854775808:=rfl;have e2:IntKind.i64.max=9223372036854775807:=rfl;rw[e1,e2];omega
attribute [local go_sem] Jm
theorem zm {w:World}{b:Nat}{o:Obj}(h:w.heap[b]? =some o):b<w.heap.size:=(Array.getElem?_eq_some_iff.1 h).1
def jF (w:World)(b:Nat)(r:Rec):Prop:=w.heap[b]? =some (.cells (recC r).toArray 80 (0,0))
theorem jF.cells {w:World}{b:Nat}{r:Rec}(h:jF w b r):w.cell? ⟨b,0,none⟩=some (.string r.owner)/\w.cell? ⟨b,1,none⟩=some (.int .i64 r.typ)/\w.cell? ⟨b,2,none⟩=some (.int .i64 r.cls)/\w.cell? ⟨b,3,none⟩=some (.int .i64 r.ttl)/\w.cell? ⟨b,4,none⟩=some (.string r.data):=by
 refine⟨?_,?_,?_,?_,?_⟩ <;> (rw[qg h];rfl)
theorem jF.new {w w':World}(r:Rec)(e:w'=w.alloc (.cells (recC r).toArray 80)):jF w' w.heap.size r:=by subst e;exact qz rfl
theorem jF.below {w w':World}{b:Nat}{r:Rec}(h:jF w b r)(hB:Below w.heap.size w w'):jF w' b r:=(hB.block b (zm h)).trans h
theorem jF.stored {w:World}{b:Nat}{r:Rec}(h:jF w b r)(y:Rec):jF (((((w.setCell ⟨b,0,none⟩ (.string y.owner)).setCell ⟨b,1,none⟩ (.int .i64 y.typ)).setCell ⟨b,2,none⟩ (.int .i64 y.cls)).setCell ⟨b,3,none⟩ (.int .i64 y.ttl)).setCell ⟨b,4,none⟩ (.string y.data)) b y/\
 w.grownBy (((((w.setCell ⟨b,0,none⟩ (.string y.owner)).setCell ⟨b,1,none⟩ (.int .i64 y.typ)).setCell ⟨b,2,none⟩ (.int .i64 y.cls)).setCell ⟨b,3,none⟩ (.int .i64 y.ttl)).setCell ⟨b,4,none⟩ (.string y.data)) (some b):=by
 refine⟨qC (qC (qC (qC (qC h 0 _) 1 _) 2 _) 3 _) 4 _,?_⟩;have g:∀(W:World) (i:Nat) (v:Value),W.grownBy (W.setCell ⟨b,i,none⟩ v) (some b):=λW i v=>grownBy_setCell W ⟨b,i,none⟩ v;exact((((g _ _ _).trans (g _ _ _)).trans (g _ _ _)).trans (g _ _ _)).trans (g _ _ _)
theorem qL {w w':World}{b:Nat}(h:RowKit.Below b w w'):∀n,RowKit.Below b w (w'.drewN n)
 | 0=>h
 | n+1=>(qL h n).drew
structure xD (w:World)(b6:Nat)(Z:tr.Zn)(x:Rec)(tl:List Rec)(wr:World)(k0:Nat)(lv:Value)(now:Rec)(goes:Bool)(L:List Rec):Prop where
 below:Below w.heap.size w wr
 own:wr.ownsRow w.heap.size 80 5 lv L.length (qw L)
 far:∀b,lv.ownBlock=some b->b≠b6
 box:jF wr b6 now
 len:L.length<=2000+k0
 wf:∀r∈L,(Lit.int .i64 r.typ).wf=true
 nwf:(Lit.int .i64 now.typ).wf=true
 run:tr.jc x (now,goes,L) (tl.drop k0)=tr.jc x (tr.qZ Z,false,tr.q9 Z.l) tl
section
variable {w wr w':World}{b6 k0:Nat}{Z:tr.Zn}{x now:Rec}{tl L:List Rec}{lv:Value}{goes:Bool}
theorem xD.moved (h:xD w b6 Z x tl wr k0 lv now goes L)(hB:Below wr.heap.size wr w'){goes':Bool}(hr:tr.jc x (now,goes',L) (tl.drop (k0+1))=tr.jc x (tr.qZ Z,false,tr.q9 Z.l) tl):xD w b6 Z x tl w' (k0+1) lv now goes' L:=
 ⟨h.below.trans (hB.mono h.below.size),ownsRow_below h.own hB,h.far,(hB.block b6 (zm h.box)).trans h.box,by have:=h.len;omega,h.wf,h.nwf,hr⟩
theorem xD.turned (h:xD w b6 Z x tl wr k0 lv now goes L)(h6:w.heap.size<=b6)(hB:Below wr.heap.size wr w'){y:Rec}(hy:(Lit.int .i64 y.typ).wf=true)(hr:tr.jc x (y,false,L) (tl.drop (k0+1))=tr.jc x (tr.qZ Z,false,tr.q9 Z.l) tl):
 xD w b6 Z x tl (((((w'.setCell ⟨b6,0,none⟩ (.string y.owner)).setCell ⟨b6,1,none⟩ (.int .i64 y.typ)).setCell ⟨b6,2,none⟩ (.int .i64 y.cls)).setCell ⟨b6,3,none⟩ (.int .i64 y.ttl)).setCell ⟨b6,4,none⟩ (.string y.data)) (k0+1) lv y false L:=by
 have hb:jF w' b6 now:=(hB.block b6 (zm h.box)).trans h.box;have hs:=hb.stored y;have hB2:=h.below.trans (hB.mono h.below.size);refine⟨hB2.grown hs.2 hB2.size (λj hj=>by simp only[gM]at hj;omega),qm (ownsRow_below h.own hB) (λc hc=>hs.2.block c ((ownsRow_below h.own hB).lt c hc).2 (by simp only[ne_eq,gM];exact h.far c hc)),h.far,hs.1,by have:=h.len;omega,h.wf,hy,hr⟩
theorem xD.less (h:xD w b6 Z x tl wr k0 lv now goes L){w1:World}(hB:Below wr.heap.size wr w1){k:Nat}(hk:k<L.length){v':Value}(ho:v'.ownBlock=lv.ownBlock)(hg:w1.grownBy w' lv.ownBlock)(hown:w'.ownsRow w.heap.size 80 5 v' (L.eraseIdx k).length (qw (L.eraseIdx k)))
 (hr:tr.jc x (now,goes,L.eraseIdx k) (tl.drop (k0+1))=tr.jc x (tr.qZ Z,false,tr.q9 Z.l) tl):xD w b6 Z x tl w' (k0+1) v' now goes (L.eraseIdx k):=by
 have hB2:=h.below.trans (hB.mono h.below.size);have ho1:=ownsRow_below h.own hB;have hl:=zm h.box;refine⟨hB2.grown hg hB2.size (λj hj=>(ho1.lt j hj).1),hown,λc hc=>h.far c (ho ▸ hc),?_,?_,λr hr=>h.wf r (List.mem_of_mem_eraseIdx hr),h.nwf,hr⟩
 ·refine(hg.block b6 (gN hl hB.size) (λe=>h.far b6 e.symm rfl)).trans ((hB.block b6 hl).trans h.box)
 ·rw[List.length_eraseIdx,if_pos hk];have:=h.len;omega
theorem xD.more (h:xD w b6 Z x tl wr k0 lv now goes L){w1:World}(hB:Below wr.heap.size wr w1){y:Rec}(hy:(Lit.int .i64 y.typ).wf=true){v':Value}(hg:w1.grownBy w' lv.ownBlock)(hn:∀b,v'.ownBlock=some b->lv.ownBlock=some b\/w1.heap.size<=b)(hown:w'.ownsRow w.heap.size 80 5 v' (L ++ [y]).length (qw (L ++ [y])))
 (hr:tr.jc x (now,goes,L ++ [y]) (tl.drop (k0+1))=tr.jc x (tr.qZ Z,false,tr.q9 Z.l) tl):xD w b6 Z x tl w' (k0+1) v' now goes (L ++ [y]):=by
 have hB2:=h.below.trans (hB.mono h.below.size);have ho1:=ownsRow_below h.own hB;have hl:=zm h.box;refine⟨hB2.grown hg hB2.size (λj hj=>(ho1.lt j hj).1),hown,λc hc e=>?_,?_,?_,λr hr=>?_,h.nwf,hr⟩
 ·rcases hn c hc with h1 | h1
  ·exact h.far c h1 e
  ·have:=hB.size;omega
 ·refine(hg.block b6 (gN hl hB.size) (λe=>h.far b6 e.symm rfl)).trans ((hB.block b6 hl).trans h.box)
 ·rw[gK,gT];have:=h.len;omega
 ·rcases List.mem_append.1 hr with h1 | h1
  ·exact h.wf r h1
  ·rw[List.mem_singleton.1 h1];exact hy
end
theorem tsteps_any (t z tz:Nat)(Z:tr.Zn)(hv:tr.Ok Z)(n:ByteArray)(s:Bool)(x:Rec)(tl:List Rec)(hl:tl.length<=10000000)(hok:∀r∈x :: tl,(Lit.int .i64 r.typ).wf=true)(v:Value)(w:World)(hz:jB w tz z Z.ap Z.l)(ht:Ui w t (qX z) n s (x :: tl) v):
 Calls Tryz.prog 90 #[.pointer (some ⟨t,0,none⟩)] w λe w'=>xL (tr.jw Z x tl) (qX z) w e w':=by
 obtain⟨hr,htl,c0,c1,c2,c3⟩:=id ht;obtain⟨va,vc,rfl,hvc,-⟩:=id hr;obtain⟨b,off,rfl⟩:=jm hr (by simp);obtain⟨hbl,r0,r1,r2,r3,r4⟩:=qH hr (j:=0) (by simp);simp only[Ho,Nat.zero_mul,Nat.add_zero]at r0 r1 r2 r3 r4;obtain⟨m,hm⟩:=yM ((x :: tl).length);have hm2:m=tl.length+1:=by rw[hm];rfl
 rw[<- hm]at hvc c3;obtain⟨ka,hka,hki,hkx,hke⟩:=tr.soa_idx hv;have hsm:=hv.small;have HRC:=qe (show ∀X:World,Below w.heap.size w X->Calls Tryz.prog 23 #[qX z] X λe w'=>jk Z.l X e w' from λX hX=>
  kH _ z Z.ap Z.l hsm X (hz.kept hX).v)
 have HIF:=qe (show ∀(X:World) (u:Value),ql X u Z.l->Calls Tryz.prog 137 #[u,.func (.func 138) #[] #[]] X λe w'=>e= .returned (.int .i64 (ka:Int))/\Below X.heap.size X w' from λX u ho=>by
  have h:=KC 138 #[] XB (λr=>decide (r.typ=6)) X.heap.size X X Z.l (by omega) u ho (gJ _ _) (gI _) (λr _ Y _=>steps1_any r Y);rw[hki]at h;exact h)
 have zk:=qe (show ∀X,Below w.heap.size w X->Below w.heap.size w X/\X.cell? ⟨t,0,none⟩=some (qX z) from λX hX=>⟨hX,(ht.below hX).2.2.1⟩);have HT:=qe ht;have HR:=qe hr;have HM:=qe hm;have HM2:=qe hm2;have HOK:=qe hok;have HV:=qe hv;have HZ:=qe hz;have HKA:=qe hka;have HKX:=qe (show ∃h:ka<Z.l.length,Z.l[ka]=tr.qZ Z from⟨hka,hkx⟩);have HKE:=qe hke;have HSM:=qe hsm;have HVC:=qe hvc;have HL:=qe hl;clear hr hm hm2 hok hv hz hka hki hkx hke hsm hvc hl ht;have HB0:=qe (gJ w.heap.size w)
 go_enter Tryz.func90,Tryz.ntmps90
 go_upto_region 1 with fail
 go_cut [4,5] (λv4 v5 wx=>v5= .int .i64 (ka:Int)/\Below w.heap.size w wx/\wx.ownsRow w.heap.size 80 5 v4 Z.l.length (qw Z.l))
 case first=>
  go_region_held3 (λX=>Below w.heap.size w X/\X.cell? ⟨t,0,none⟩=some (qX z))
   (first | assumption | exact zk.out _ (gJ _ _).drew | (go_split_ands;exact zk.out _ (by assumption)))
   (first
    | (go_at_call 23;(with_reducible refine(HRC.out _ (by go_split_ands;assumption)).mono ?_);first | (rintro e wB ⟨vB,rfl,hbB,hoB⟩;go_split_ands;have hoA1:=ownsRow_below hoA hbB;have VN:=Below.trans (B:=w.heap.size) (a:=w) (by assumption) (hbB.mono (Below.size (by assumption)))) | (rintro e wA ⟨vA,rfl,hbA,hoA⟩;go_split_ands;have uY:=Below.trans (B:=w.heap.size) (a:=w) (by assumption) (hbA.mono (Below.size (by assumption)))))
    | (go_at_call 137;(with_reducible refine(HIF.out _ _ (by first | exact qF hoB | exact qF hoA1 | exact qF hoA)).mono ?_);rintro e wI ⟨rfl,hbI⟩;go_split_ands;have hbI2:=Below.trans (B:=w.heap.size) (a:=w) (by assumption) (hbI.mono (Below.size (by assumption)))))
  all_goals
   go_wp2_with fail;go_meet
   first
    | exact⟨rfl,hbI2,qK (ownsRow_below hoB hbI) (by first | exact gI _ | exact Below.size (by assumption))⟩
    | exact⟨rfl,hbI2,qK (ownsRow_below hoA1 hbI) (by first | exact gI _ | exact Below.size (by assumption))⟩
    | exact⟨rfl,hbI2,qK (ownsRow_below hoA hbI) (by first | exact gI _ | exact Below.size (by assumption))⟩
    | exact⟨rfl,uY,qK hoA (by first | exact gI _ | exact Below.size (by assumption))⟩
    | exact⟨rfl,VN,qK hoB (by first | exact gI _ | exact Below.size (by assumption))⟩
 obtain⟨rfl,hB1,hO1⟩:=hcut;obtain⟨w1,hw1⟩:=yM wc;subst hw1;obtain⟨g1,p1,rfl,-,-⟩:=hO1.form (by have:=HKA.out;omega);obtain⟨sx,hsx⟩:=yM (tr.qZ Z);obtain⟨-,d0,d1,d2,d3,d4⟩:=qH (qF hO1) (j:=ka) HKA.out;have hkx:Z.l[ka]'HKA.out=sx:=by rw[hsx];exact HKX.out.2
 rw[hkx]at d0 d1 d2 d3 d4;simp only[Nat.zero_add]at d0 d1 d2 d3 d4;obtain⟨w2,hw2⟩:=yM (w1.alloc (.cells (recC sx).toArray 80));obtain⟨hB2,hs2,-⟩:=zf w1 w2 sx hw2;have hx2:=jF.new sx hw2;obtain⟨b6,hb6⟩:=yM w1.heap.size;rw[<- hb6]at hx2;have hd:=Xp Z.l (by have:=HSM.out;omega) ka (ka+1) HKA.out rfl w.heap.size _ w2 (ownsRow_below hO1 hB2);obtain⟨ka1,hka1⟩:=yM (ka+1);rw[<- hka1,HKE.out]at hd;have HD:=qe hd;have e1:IntKind.i64.wrap ((ka:Int)+1)=(ka1:Int):=by rw[hka1];exact Hg _ (by have:=HKA.out;have:=HSM.out;omega)
 have e2:(0:Int)<=(ka:Int):=by omega
 have e3:(ka:Int)<(Z.l.length:Int):=by have:=HKA.out;omega
 have e4:ka<Z.l.length:=HKA.out;have HB1:=qe hB1;have HO1:=qe hO1;have HSX:=qe hsx;have HW2:=qe hw2;have HB2:=qe hB2;have HX2:=qe hx2;have HB6:=qe hb6;have HS2:=qe hs2;clear hB1 hO1 hsx hkx hw2 hB2 hs2 hx2 hb6 hd hka1 HRC HIF zk HKX HKE HKA c1 c2 r0 r1 r2 r3 r4;go_upto_region 3 with fail;rw[<- HW2.out,<- HB6.out];clear d0 d1 d2 d3 d4;go_wp2_with fail;refine HD.out.mono ?_;rintro e w3 ⟨v3,rfl,hob3,hg3,hO3⟩;have hob3':v3.ownBlock=some g1:=hob3;have hg3':w2.grownBy w3 (some g1):=hg3;have hg1:=HO1.out.lt g1 rfl;have hS:xD w b6 Z x tl w3 0 v3 sx false (tr.q9 Z.l):=by
  refine⟨(gm HB1.out HB2.out).grown hg3' (by have:=HB1.out.size;have:=HB2.out.size;omega) (λq hq=>by simp only[gM]at hq;omega),hO3,λb hb=>by rw[hob3']at hb;simp only[gM]at hb;have:=HB6.out;omega,?_,?_,λr hr=>wf_zone HV.out (tr.kS.1 hr).1,?_,?_⟩
  ·exact(hg3'.block b6 (by have:=HB6.out;have:=HS2.out;omega) (by simp only[ne_eq,gM];have:=HB6.out;omega)).trans HX2.out
  ·exact gQ (List.length_filter_le _ _) (by have:=HSM.out;omega)
  ·rw[HSX.out];exact wf_zone HV.out (tr.yx HV.out).2.1
  ·rw[HSX.out];rfl
 have HS3:=qe hS;have H6L:=qe (show w.heap.size<=b6 by have:=HB6.out;have:=HB1.out.size;omega);clear hob3 hob3' hg3 hg3' hO3 hS hg1 e1 e2 e3 e4 HD HO1 HX2 HW2 HB2 HS2 HB6 HSX;go_wp2_with fail
 go_loopw [9,4,7,8] (λkv lv gv bv wr=>∃(k0 k:Nat) (now:Rec) (goes beg:Bool) (L:List Rec) (lx:Value),k=k0+1/\k0<=tl.length/\kv= .int .i64 (k:Int)/\lx=lv/\gv= .bool goes/\bv= .bool beg/\(goes=true->beg=true)/\Hid (xD w b6 Z x tl wr k0 lx now goes L)) (λkv _ _ _ _=>m-(intOf kv).toNat)
 case atStart=>exact⟨0,1,sx,false,false,tr.q9 Z.l,_,rfl,gU _,rfl,rfl,rfl,rfl,λh=>h,HS3⟩
 case round=>
  obtain⟨k0,k,now,goes,beg,L,lv,hk,hk0,rfl,rfl,rfl,rfl,hgb,HST⟩:=hrel;obtain⟨wr3,hw3⟩:=yM wr;subst hw3;have hB3:=HST.out.below;have ht3:=HT.out.below hB3;rw[<- HM.out]at ht3;obtain⟨-,-,q0,-,-,q3⟩:=ht3;by_cases hlt:k0<tl.length
  ·have hki:(k:Int)<(m:Int):=by have:=HM2.out;omega
   have hkn:k<m:=by have:=HM2.out;omega
   have hk9:(0:Int)<=(k:Int):=by omega
   have ek:IntKind.i64.wrap ((k:Int)+1)=(k:Int)+1:=Hg _ (by have:=HM2.out;have:=HL.out;omega);have em:IntKind.i64.wrap ((m:Int)-1)=(m:Int)-1:=Hg _ (by have:=HM2.out;have:=HL.out;omega);have hr3:=HR.out.below hB3;obtain⟨-,a0,a1,a2,a3,a4⟩:=qH hr3 (j:=k) (by have:=HM.out;omega);obtain⟨y,hy⟩:=yM (tl[k0]);have hyk:(x :: tl)[k]'(by have:=HM.out;omega)=y:=by subst hk;rw[hy];rfl
   rw[hyk]at a0 a1 a2 a3 a4;have hdr:tl.drop k0=y :: tl.drop k:=by rw[hy,hk];exact Hf hlt
   have hywf:=HOK.out y (by rw[hy];exact List.mem_cons_of_mem _ (Ht hlt));have hrun:=HST.out.run;rw[hdr]at hrun;obtain⟨w4,hw4⟩:=yM (wr3.alloc (.cells (recC y).toArray 80));obtain⟨hB4,hs4,hx4⟩:=zf wr3 w4 y hw4;obtain⟨b10,hb10⟩:=yM wr3.heap.size;rw[<- hb10]at hx4;have HK:=qe hk;have HLT:=qe hlt;have HYWF:=qe hywf;have ZY:=qe hrun;have HDR:=qe hdr;have HW4:=qe hw4;have HB4:=qe hB4;have HX4:=qe hx4;have yt:=qe hb10;have HGB:=qe hgb;have HS4:=qe hs4;have Jd:=qe (gm hB3 hB4);clear hB3 hr3 hy hyk hdr hywf hrun hw4 hB4 hs4 hx4 hb10 hgb hk hk0 hlt;go_upto_region 11 with fail;rw[<- HW4.out,<- yt.out];clear a0 a1 a2 a3 a4 q0 q3;have HXB:=qe (show jF w4 b10 y from by rw[yt.out];exact jF.new y HW4.out);have HNB:=qe (show jF w4 b6 now from(HB4.out.block b6 (zm HST.out.box)).trans HST.out.box);obtain⟨-,-,q0,-,-,q3⟩:=HT.out.below Jd.out;rw[<- HM.out]at q3;obtain⟨-,r0,r1,r2,r3,r4⟩:=qH (HR.out.below Jd.out) (j:=0) (by simp);simp only[Ho,Nat.zero_mul,Nat.add_zero]at r0 r1 r2 r3 r4;obtain⟨x0,x1,x2,x3,x4⟩:=jF.cells HXB.out;obtain⟨n0,n1,n2,n3,n4⟩:=jF.cells HNB.out;have e0:0<m:=by omega
   by_cases h6:y.typ=6
   ·have d6:(y.typ == 6)=true:=by rw[Hz];exact h6
    cases goes
    ·by_cases hyn:y=now
     ·subst hyn;by_cases hkm:(k:Int)=(m:Int)-1
      ·have ekm:((k:Int) == (m:Int)-1)=true:=by rw[Hz];exact hkm
       have hdk:tl.drop k= []:=List.drop_of_length_le (by have:=HM2.out;omega);by_cases hyx:y=x
       ·have HMK:=qe (show tr.jw Z x tl= .make Z.ap (L ++ [y]) from by
         have h:=ZY.out;rw[tr.run_end h6 rfl hdk hyx]at h;exact tr.X0 h.symm)
        subst hyx;clear hkm hdk h6
        go_quiet (fail)
        obtain⟨w5,hw5⟩:=yM (w4.drewN nq);rw[<- hw5];have jI:=qe (show Below w4.heap.size w4 w5 from by rw[hw5];exact qL (gJ _ _) nq);clear hw5;clear x0 x1 x2 x3 x4 n0 n1 n2 n3 n4;clear q0 q3 r0 r1 r2 r3 r4;have jo:=qe (gm Jd.out jI.out);have QV:=qe (gm HB4.out jI.out);obtain⟨-,-,q0,-,-,q3⟩:=HT.out.below jo.out;rw[<- HM.out]at q3;obtain⟨-,r0,r1,r2,r3,r4⟩:=qH (HR.out.below jo.out) (j:=0) (by simp);simp only[Ho,Nat.zero_mul,Nat.add_zero]at r0 r1 r2 r3 r4;obtain⟨x0,x1,x2,x3,x4⟩:=jF.cells (HXB.out.below jI.out);have HN5:=qe (HNB.out.below jI.out);obtain⟨n0,n1,n2,n3,n4⟩:=jF.cells HN5.out;have HAL5:=qe (show ∀X,Below w.heap.size w X->X.heap[b6]? =w5.heap[b6]?->Below w.heap.size w X/\X.cell? ⟨t,0,none⟩=some (qX z)/\X.cell? ⟨b6,0,none⟩=some (.string y.owner)/\X.cell? ⟨b6,1,none⟩=some (.int .i64 y.typ)/\X.cell? ⟨b6,2,none⟩=some (.int .i64 y.cls)/\X.cell? ⟨b6,3,none⟩=some (.int .i64 y.ttl)/\X.cell? ⟨b6,4,none⟩=some (.string y.data) from λX hX h6X=>
         ⟨hX,(HT.out.below hX).2.2.1,jF.cells (show jF X b6 y from h6X.trans HN5.out)⟩)
        have HAX:=qe (show ∀X:World,Below w.heap.size w X->Calls Tryz.prog 24 #[qX z] X λe w'=>e= .returned (.string Z.ap)/\w'=X from λX hX=>by
         obtain⟨_,_,_,_,_,_,_,h2,_⟩:=(HZ.out.kept hX).v.parts;exact uH z Z.ap _ _ _ X h2)
        have HMD:=qe (show ∀(X:World) (u:Value),ql X u (L ++ [y])->Calls Tryz.prog 140 #[.string Z.ap,u] X λe w'=>jD Z.ap (L ++ [y]) X e w' from λX u hu=>
         made_any Z.ap (L ++ [y]) (λr hr=>by
          rcases List.mem_append.1 hr with h | h
          ·exact HST.out.wf r h
          ·rw[List.mem_singleton.1 h];exact HYWF.out) u (Yx hu (by simp)) X hu)
        have HLN:=qe (show L.length+([y]:List Rec).length<=1000000000 by have:=HST.out.len;have:=HLT.out;have:=HL.out;simp only[gT];omega);clear x0 x1 x2 x3 x4;go_upto_region 12 with fail
        go_region_held3 (λX=>Below w.heap.size w X/\X.cell? ⟨t,0,none⟩=some (qX z)/\X.cell? ⟨b6,0,none⟩=some (.string y.owner)/\X.cell? ⟨b6,1,none⟩=some (.int .i64 y.typ)/\X.cell? ⟨b6,2,none⟩=some (.int .i64 y.cls)/\X.cell? ⟨b6,3,none⟩=some (.int .i64 y.ttl)/\X.cell? ⟨b6,4,none⟩=some (.string y.data))
         (first | assumption | exact HAL5.out _ jo.out.drew rfl | exact HAL5.out _ uX hbX6 | exact HAL5.out _ hbP hbP6 | exact HAL5.out _ (jo.out.drew.alloc jo.out.size _) (((gJ w5.heap.size w5).drew.alloc (gI _) _).block b6 (zm HN5.out)))
         (first
          | (go_at_call 24;(first | (with_reducible refine(HAX.out _ hbP).mono ?_) | (with_reducible refine(HAX.out _ jo.out.drew).mono ?_) | refine(HAX.out _ (jo.out.drew.alloc jo.out.size _)).mono ?_);rintro e wN ⟨rfl,hE⟩;obtain rfl:=hE.symm;clear hE)
          | (go_at_call 140;(with_reducible refine(HMD.out _ _ (qF (jX rfl rfl hoP))).mono ?_);intro e wX hpp;obtain⟨hbX,r1',r2',rfl,hpp⟩:=hpp.two;have uX:=gm hbP hbX;have hbX6:=(hbX.block b6 (zm (hbP6.trans HN5.out))).trans hbP6)
          | (refine Yg rfl _ _ rfl w.heap.size _ _ _ rfl (ownsRow_below HST.out.own (QV.out.drew.alloc QV.out.size _)) _ (kC (kL (w:=w5.drew) (base:=w.heap.size) y rfl jo.out.size)) _ (qF (kL (w:=w5.drew) (base:=w.heap.size) y rfl jo.out.size)) rfl HLN.out (Below.size (jo.out.drew.alloc jo.out.size _)) ?_;intro vP wP hoP hgP hnP;have hbP:=(jo.out.drew.alloc jo.out.size _).grown hgP (Below.size (jo.out.drew.alloc jo.out.size _)) (λq hq=>(HST.out.own.lt q hq).1);have hbP6:=(hgP.block b6 (gN (zm HN5.out) (Below.size ((gJ w5.heap.size w5).drew.alloc (gI _) _))) (λe=>HST.out.far b6 e.symm rfl)).trans (((gJ w5.heap.size w5).drew.alloc (gI _) _).block b6 (zm HN5.out))))
        all_goals (go_wp2_with fail;go_ret2;rw[HMK.out];exact⟨uX,hpp.2⟩)
       ·have ekx:¬(y=x):=hyx;have hr:=ZY.out;rw[tr.J4 h6 rfl (λh=>hyx h.2),HK.out]at hr;have HR6:=qe hr;clear hr h6 hkm hdk hyx
        go_quiet (fail)
        obtain⟨w5,hw5⟩:=yM (w4.drewN nq);rw[<- hw5];have jI:=qe (show Below w4.heap.size w4 w5 from by rw[hw5];exact qL (gJ _ _) nq);clear hw5;clear x0 x1 x2 x3 x4 n0 n1 n2 n3 n4;clear q0 q3 r0 r1 r2 r3 r4;have jo:=qe (gm Jd.out jI.out);have QV:=qe (gm HB4.out jI.out);obtain⟨-,-,q0,-,-,q3⟩:=HT.out.below jo.out;rw[<- HM.out]at q3;obtain⟨-,r0,r1,r2,r3,r4⟩:=qH (HR.out.below jo.out) (j:=0) (by simp);simp only[Ho,Nat.zero_mul,Nat.add_zero]at r0 r1 r2 r3 r4;obtain⟨x0,x1,x2,x3,x4⟩:=jF.cells (HXB.out.below jI.out);have HN5:=qe (HNB.out.below jI.out);obtain⟨n0,n1,n2,n3,n4⟩:=jF.cells HN5.out;have HT8:=qe (HST.out.moved QV.out HR6.out);clear HR6;go_wp2_with fail
        go_roundw
        case rel=>exact⟨k0+1,k+1,_,_,_,_,_,by have:=HK.out;omega,HLT.out,by go_num,rfl,rfl,rfl,(λ_=>rfl),HT8⟩
        case measure=>simp[intOf];omega
      ·have ekm:((k:Int) == (m:Int)-1)=false:=by rw[gG];exact hkm
       have hr:=ZY.out;rw[tr.J4 h6 rfl (λh=>hkm (by have:=List.drop_eq_nil_iff.1 h.1;have:=HM2.out;have:=HLT.out;have:=HK.out;omega)),HK.out]at hr;have HR6:=qe hr;clear hr h6 hkm
       go_quiet (fail)
       obtain⟨w5,hw5⟩:=yM (w4.drewN nq);rw[<- hw5];have jI:=qe (show Below w4.heap.size w4 w5 from by rw[hw5];exact qL (gJ _ _) nq);clear hw5;clear x0 x1 x2 x3 x4 n0 n1 n2 n3 n4;clear q0 q3 r0 r1 r2 r3 r4;have jo:=qe (gm Jd.out jI.out);have QV:=qe (gm HB4.out jI.out);obtain⟨-,-,q0,-,-,q3⟩:=HT.out.below jo.out;rw[<- HM.out]at q3;obtain⟨-,r0,r1,r2,r3,r4⟩:=qH (HR.out.below jo.out) (j:=0) (by simp);simp only[Ho,Nat.zero_mul,Nat.add_zero]at r0 r1 r2 r3 r4;obtain⟨x0,x1,x2,x3,x4⟩:=jF.cells (HXB.out.below jI.out);have HN5:=qe (HNB.out.below jI.out);obtain⟨n0,n1,n2,n3,n4⟩:=jF.cells HN5.out;have HT8:=qe (HST.out.moved QV.out HR6.out);clear HR6;go_wp2_with fail
       go_roundw
       case rel=>exact⟨k0+1,k+1,_,_,_,_,_,by have:=HK.out;omega,HLT.out,by go_num,rfl,rfl,rfl,(λ_=>rfl),HT8⟩
       case measure=>simp[intOf];omega
     ·have HE:=qe (show ∀X,Below w4.heap.size w4 X->xL (tr.jw Z x tl) (qX z) w (.returned (.tuple #[.pointer none,kI 30])) X from λX hX=>by
       have h:=ZY.out;rw[tr.run_old h6 hyn]at h;rw[tr.uL h.symm (by decide)];exact⟨by decide,Jd.out.trans (hX.mono Jd.out.size),rfl⟩)
      clear h6
      go_quiet (fail)
      obtain⟨w5,hw5⟩:=yM (w4.drewN nq);rw[<- hw5];have jI:=qe (show Below w4.heap.size w4 w5 from by rw[hw5];exact qL (gJ _ _) nq);clear hw5;clear x0 x1 x2 x3 x4 n0 n1 n2 n3 n4;clear q0 q3 r0 r1 r2 r3 r4;have jo:=qe (gm Jd.out jI.out);have QV:=qe (gm HB4.out jI.out);obtain⟨-,-,q0,-,-,q3⟩:=HT.out.below jo.out;rw[<- HM.out]at q3;obtain⟨-,r0,r1,r2,r3,r4⟩:=qH (HR.out.below jo.out) (j:=0) (by simp);simp only[Ho,Nat.zero_mul,Nat.add_zero]at r0 r1 r2 r3 r4;obtain⟨x0,x1,x2,x3,x4⟩:=jF.cells (HXB.out.below jI.out);have HN5:=qe (HNB.out.below jI.out);obtain⟨n0,n1,n2,n3,n4⟩:=jF.cells HN5.out;go_wp2_with fail;go_ret2;exact HE.out w5 jI.out
    ·have hr:=ZY.out;rw[tr.X8 h6,HK.out]at hr;have HR6:=qe hr;clear hr h6
     go_quiet (fail)
     obtain⟨w5,hw5⟩:=yM (w4.drewN nq);rw[<- hw5];have jI:=qe (show Below w4.heap.size w4 w5 from by rw[hw5];exact qL (gJ _ _) nq);clear hw5;clear x0 x1 x2 x3 x4 n0 n1 n2 n3 n4;clear q0 q3 r0 r1 r2 r3 r4;have jo:=qe (gm Jd.out jI.out);have QV:=qe (gm HB4.out jI.out);obtain⟨-,-,q0,-,-,q3⟩:=HT.out.below jo.out;rw[<- HM.out]at q3;obtain⟨-,r0,r1,r2,r3,r4⟩:=qH (HR.out.below jo.out) (j:=0) (by simp);simp only[Ho,Nat.zero_mul,Nat.add_zero]at r0 r1 r2 r3 r4;obtain⟨x0,x1,x2,x3,x4⟩:=jF.cells (HXB.out.below jI.out);have HN5:=qe (HNB.out.below jI.out);obtain⟨n0,n1,n2,n3,n4⟩:=jF.cells HN5.out;have f0:=qB HN5.out 0;have f1:=qB HN5.out 1;have f2:=qB HN5.out 2;have f3:=qB HN5.out 3;have f4:=qB HN5.out 4;have HT6:=qe (HST.out.turned H6L.out QV.out HYWF.out HR6.out);clear HR6 HN5 HNB;go_wp2_with fail
     go_roundw
     case rel=>exact⟨k0+1,k+1,_,_,_,_,_,by have:=HK.out;omega,HLT.out,by go_num,rfl,rfl,rfl,(λh=>by cases h),HT6⟩
     case measure=>simp[intOf];omega
   ·have d6:(y.typ == 6)=false:=by rw[gG];exact h6
    cases goes
    ·obtain⟨hm,hhm⟩:=yM (decide (y∈L));have HHM:=qe hhm
     have HCO:=qe (show ∀X,Below wr3.heap.size wr3 X->Calls Tryz.prog 142 #[lv,yf y] X λe w'=>e= .returned (.bool hm)/\Below X.heap.size X w' from λX hX=>by
      rw[hhm];exact contains_any L (by have:=HST.out.len;have:=HLT.out;have:=HL.out;omega) y lv X (qF (ownsRow_below HST.out.own hX)))
     have HY6:=qe h6;clear h6 hhm
     go_quiet (fail)
     obtain⟨w5,hw5⟩:=yM (w4.drewN nq);rw[<- hw5];have jI:=qe (show Below w4.heap.size w4 w5 from by rw[hw5];exact qL (gJ _ _) nq);clear hw5;clear x0 x1 x2 x3 x4 n0 n1 n2 n3 n4;clear q0 q3 r0 r1 r2 r3 r4;have jo:=qe (gm Jd.out jI.out);have QV:=qe (gm HB4.out jI.out);obtain⟨-,-,q0,-,-,q3⟩:=HT.out.below jo.out;rw[<- HM.out]at q3;obtain⟨-,r0,r1,r2,r3,r4⟩:=qH (HR.out.below jo.out) (j:=0) (by simp);simp only[Ho,Nat.zero_mul,Nat.add_zero]at r0 r1 r2 r3 r4;obtain⟨x0,x1,x2,x3,x4⟩:=jF.cells (HXB.out.below jI.out);have HN5:=qe (HNB.out.below jI.out);obtain⟨n0,n1,n2,n3,n4⟩:=jF.cells HN5.out;go_upto_region 8 with fail;go_wp2_with fail;refine(HCO.out w5 QV.out).mono ?_;rintro e w6 ⟨rfl,hB6⟩;have XM:=qe (gm QV.out hB6);have HX6:=qe (show jF w6 b10 y from(hB6.block b10 (gN (zm HXB.out) jI.out.size)).trans ((jI.out.block b10 (zm HXB.out)).trans HXB.out));have Jc:=qe (gm jo.out hB6);clear hB6 q0 q3 r0 r1 r2 r3 r4;clear x0 x1 x2 x3 x4 n0 n1 n2 n3 n4
     cases hm
     ·have hr:=ZY.out;rw[tr.run_add HY6.out (of_decide_eq_false HHM.out.symm),HK.out]at hr;have HR6:=qe hr;clear hr;obtain⟨x0,x1,x2,x3,x4⟩:=jF.cells HX6.out;obtain⟨w7,hw⟩:=yM (w6.alloc (.cells (recC y).toArray 80));obtain⟨hBn,-,-⟩:=zf w6 w7 y hw;obtain⟨gw7,hg⟩:=yM w6.heap.size;have hon:=kL (base:=w.heap.size) y hw Jc.out.size;rw[<- hg]at hon;have HWw7:=qe hw;have HGw7:=qe hg;have HOw7:=qe hon;have HBNw7:=qe hBn;clear hw hg hon hBn;have HB37:=qe (gm XM.out HBNw7.out);have HO7:=qe (ownsRow_below HST.out.own HB37.out);go_wp2_with (at_builtin;rw[<- HWw7.out,<- HGw7.out];refine zO rfl _ _ rfl w.heap.size _ _ _ rfl HO7.out _ (kC HOw7.out) _ (qF HOw7.out) rfl (by have:=HST.out.len;have:=HLT.out;have:=HL.out;simp only[gT];omega) (gQ HST.out.below.size HB37.out.size) ?_);intro v8 w8 hown8 hg8 hn8;have HT8:=qe (HST.out.more HB37.out HYWF.out hg8 hn8 (jX rfl rfl hown8) HR6.out);clear x0 x1 x2 x3 x4 hown8 hg8 hn8 HR6;go_wp2_with fail
      go_roundw
      case rel=>exact⟨k0+1,k+1,_,_,_,_,_,by have:=HK.out;omega,HLT.out,by go_num,rfl,rfl,rfl,(λh=>by cases h),HT8⟩
      case measure=>simp[intOf];omega
     ·have HE:=qe (show xL (tr.jw Z x tl) (qX z) w (.returned (.tuple #[.pointer none,kI 19])) w6 from by
       have h:=ZY.out;rw[tr.run_twice HY6.out (of_decide_eq_true HHM.out.symm)]at h;rw[tr.uL h.symm (by decide)];exact⟨by decide,Jc.out,rfl⟩)
      go_wp2_with fail;go_ret2;exact HE.out
    ·obtain rfl:beg=true:=HGB.out rfl;have HIX:=qe (show ∀X,Below wr3.heap.size wr3 X->Calls Tryz.prog 141 #[lv,yf y] X λe w'=>e= .returned (.int .i64 (tr.xx L y))/\Below X.heap.size X w' from λX hX=>
      VK L (by have:=HST.out.len;have:=HLT.out;have:=HL.out;omega) y lv X (qF (ownsRow_below HST.out.own hX)))
     have HY6:=qe h6;clear h6
     go_quiet (fail)
     obtain⟨w5,hw5⟩:=yM (w4.drewN nq);rw[<- hw5];have jI:=qe (show Below w4.heap.size w4 w5 from by rw[hw5];exact qL (gJ _ _) nq);clear hw5;clear x0 x1 x2 x3 x4 n0 n1 n2 n3 n4;clear q0 q3 r0 r1 r2 r3 r4;have jo:=qe (gm Jd.out jI.out);have QV:=qe (gm HB4.out jI.out);obtain⟨-,-,q0,-,-,q3⟩:=HT.out.below jo.out;rw[<- HM.out]at q3;obtain⟨-,r0,r1,r2,r3,r4⟩:=qH (HR.out.below jo.out) (j:=0) (by simp);simp only[Ho,Nat.zero_mul,Nat.add_zero]at r0 r1 r2 r3 r4;obtain⟨x0,x1,x2,x3,x4⟩:=jF.cells (HXB.out.below jI.out);have HN5:=qe (HNB.out.below jI.out);obtain⟨n0,n1,n2,n3,n4⟩:=jF.cells HN5.out;go_upto_region 20 with fail;go_wp2_with fail;refine(HIX.out w5 QV.out).mono ?_;rintro e w6 ⟨rfl,hB6⟩;have XM:=qe (gm QV.out hB6);have Jc:=qe (gm jo.out hB6);clear hB6 q0 q3 r0 r1 r2 r3 r4;clear x0 x1 x2 x3 x4 n0 n1 n2 n3 n4;by_cases hyl:y∈L
     ·obtain⟨j,hj,hjy,hji,hje⟩:=UU hyl;have hr:=ZY.out;have hje2:L.erase y=L.eraseIdx j:=by rw[hje,List.eraseIdx_eq_take_drop_succ]
      rw[tr.run_del HY6.out hyl,HK.out,hje2]at hr;have HR6:=qe hr;obtain⟨j1,hj1⟩:=yM (j+1);have HDL:=qe (Xp L (by have:=HST.out.len;have:=HLT.out;have:=HL.out;omega) j j1 hj hj1 w.heap.size lv w6 (ownsRow_below HST.out.own XM.out));have ej:IntKind.i64.wrap ((j:Int)+1)=(j1:Int):=by rw[hj1];exact Hg _ (by have:=HST.out.len;have:=HLT.out;have:=HL.out;omega)
      have ej2:¬((j:Int)<0):=by omega
      have HJ:=qe hj;rw[hji];clear hr hyl hj hjy hji hje hje2 hj1;go_wp2_with fail;refine HDL.out.mono ?_;rintro e w7 ⟨v7,rfl,ho7,hg7,hw7⟩;have HT8:=qe (HST.out.less XM.out HJ.out ho7 hg7 hw7 HR6.out);clear ho7 hg7 hw7 HDL HR6 ej ej2;go_wp2_with fail
      go_roundw
      case rel=>exact⟨k0+1,k+1,_,_,_,_,_,by have:=HK.out;omega,HLT.out,by go_num,rfl,rfl,rfl,(λ_=>rfl),HT8⟩
      case measure=>simp[intOf];omega
     ·have hni:tr.xx L y= -1:=by unfold tr.xx;exact df.Qp λj hj=>gp λh=>hyl (h ▸ Ht hj)
      rw[hni];have HE:=qe (show xL (tr.jw Z x tl) (qX z) w (.returned (.tuple #[.pointer none,kI 28])) w6 from by
       have h:=ZY.out;rw[tr.run_none HY6.out hyl]at h;rw[tr.uL h.symm (by decide)];exact⟨by decide,Jc.out,rfl⟩)
      clear hni hyl;go_wp2_with fail;go_ret2;exact HE.out
  ·have hk2:¬(k:Int)<(m:Int):=by have:=HM2.out;omega
   have hr:=HST.out.run;rw[List.drop_of_length_le (by omega),tr.XP]at hr;have HE:=qe (show xL (tr.jw Z x tl) (qX z) w (.returned (.tuple #[.pointer none,kI 10])) wr3 from by
    rw[tr.uL hr.symm (by decide)];exact⟨by decide,hB3,rfl⟩)
   clear hr hB3 hk hk0 hlt hgb;go_wp2_with fail;go_ret2;exact HE.out
end Go.Proofs.YtpcmilhjpmlbpaaGreatDoor
namespace Go.Proofs.YtpcmilhjpmlbpaaGreatDoor
open Go.RowKit Go.Shelf nm od
def StepZ (w:World)(s:Bool)(zv:Value)(Zo:Option tr.Zn):Prop:=(s=false/\Zo=none)\/(s=true/\∃A z,Zo=some A/\zv=qX z/\tr.Ok A/\jB w w.heap.size z A.ap A.l)
theorem xL.two {o:tr.Out}{zv:Value}{w w':World}{e:Ending}(h:xL o zv w e w'):Below w.heap.size w w'/\∃r1 r2,e= .returned (.tuple #[r1,r2])/\xL o zv w (.returned (.tuple #[r1,r2])) w':=by
 cases o with
 | err c=>obtain⟨h1,h2,rfl⟩:=h;exact⟨h2,_,_,rfl,h1,h2,rfl⟩
 | same=>obtain⟨h1,rfl⟩:=h;exact⟨h1,_,_,rfl,h1,rfl⟩
 | make ap l=>exact jD.two h
theorem ttake_any (t:Nat)(zv:Value)(Zo:Option tr.Zn)(n:ByteArray)(s:Bool)(x:Rec)(tl:List Rec)(hl:tl.length<=10000000)(hok:∀r∈x :: tl,(Lit.int .i64 r.typ).wf=true)(hx:¬(x.typ≠6\/x.data.size=0\/qG x.owner n=false))(hd:20<=x.data.size/\x.data.size<=65535)
 (v:Value) (w:World) (hz:StepZ w s zv Zo) (ht:Ui w t zv n s (x :: tl) v):
 Calls Tryz.prog 52 #[.pointer (some ⟨t,0,none⟩)] w λe w'=>xL (tr.QO Zo n (x :: tl)) zv w e w':=by
 obtain⟨hr,htl,c0,c1,c2,c3⟩:=id ht;obtain⟨va,vc,rfl,hvc,-⟩:=id hr;obtain⟨b,off,rfl⟩:=jm hr (by simp);obtain⟨m,hm⟩:=yM ((x :: tl).length);have hm2:m=tl.length+1:=by rw[hm];rfl
 have HT:=qe ht;have HR:=qe hr;have HM:=qe hm;have HM2:=qe hm2;have HOK:=qe hok;have HX:=qe hx;have HD:=qe hd;have HVC:=qe hvc;have HL:=qe hl;have HZ:=qe hz;have HB0:=qe (gJ w.heap.size w);clear hr hm hm2 hok hx hd hvc hl c0 c1 c2 c3 hz ht;obtain⟨-,-,q0,-,q2,q3⟩:=HT.out.below HB0.out;rw[<- HM.out]at q3;obtain⟨-,r0,r1,r2,r3,r4⟩:=qH (HR.out.below HB0.out) (j:=0) (by simp);simp only[Ho,Nat.zero_mul,Nat.add_zero]at r0 r1 r2 r3 r4;have e0:0<m:=by have:=HM2.out;omega
 have e9:m<=10000001:=by have:=HM2.out;have:=HL.out;omega
 by_cases htl0:tl= []
 ·subst htl0;have e1:((m:Int) == 1)=true:=by rw[Hz];have:=HM2.out;simp only[List.length_nil]at this;omega
  cases s
  ·have hzo:Zo=none:=by
    rcases HZ.out with h | h
    ·exact h.2
    ·exact absurd h.1 (by decide)
   subst hzo;have HP:=qe (show tr.QO none n [x]= .err 10 from by rw[tr.Yl HX.out];rfl)
   go_enter Tryz.func52,Tryz.ntmps52
   go_upto_region 1 with fail
   go_quiet (fail)
   obtain⟨w1,hW⟩:=yM (w.drewN nq);rw[<- hW];have HB1:=qe (show Below w.heap.size w w1 from by rw[hW];exact qL (gJ _ _) nq);clear hW;clear q0 q2 q3 r0 r1 r2 r3 r4;obtain⟨-,-,q0,-,q2,q3⟩:=HT.out.below HB1.out;rw[<- HM.out]at q3;obtain⟨-,r0,r1,r2,r3,r4⟩:=qH (HR.out.below HB1.out) (j:=0) (by simp);simp only[Ho,Nat.zero_mul,Nat.add_zero]at r0 r1 r2 r3 r4;go_wp2_with fail;go_ret2;rw[HP.out];exact⟨by decide,HB1.out,rfl⟩
  ·obtain⟨A,z,rfl,rfl,hok,hzf⟩:∃A z,Zo=some A/\zv=qX z/\tr.Ok A/\jB w w.heap.size z A.ap A.l:=by
    rcases HZ.out with h | h
    ·exact absurd h.1 (by decide)
    ·exact h.2
   obtain⟨nb,hnb⟩:=yM (tr.zU (up.QQ x.data) (tr.yD A));have HNB:=qe hnb
   have zk:=qe (show ∀X,Below w.heap.size w X->Below w.heap.size w X/\X.cell? ⟨t,0,none⟩=some (qX z)/\X.cell? ⟨t,2,none⟩=some (.bool true)/\X.cell? ⟨t,3,none⟩=some (.slice (some ⟨b,off,none⟩) m vc)/\X.cell? ⟨b,off,none⟩=some (.string x.owner)/\X.cell? ⟨b,off+1,none⟩=some (.int .i64 x.typ)/\X.cell? ⟨b,off+2,none⟩=some (.int .i64 x.cls)/\X.cell? ⟨b,off+3,none⟩=some (.int .i64 x.ttl)/\X.cell? ⟨b,off+4,none⟩=some (.string x.data) from λX hX=>by
    obtain⟨-,-,q0,-,q2,q3⟩:=HT.out.below hX;rw[<- HM.out]at q3;obtain⟨-,r0,r1,r2,r3,r4⟩:=qH (HR.out.below hX) (j:=0) (by simp);simp only[Ho,Nat.zero_mul,Nat.add_zero]at r0 r1 r2 r3 r4;exact⟨hX,q0,q2,q3,r0,r1,r2,r3,r4⟩)
   have HSE:=qe (show ∀X:World,Calls Tryz.prog 68 #[yf x] X λe w'=>e= .returned (.int .i64 (up.QQ x.data))/\Below X.heap.size X w' from λX=>VZ x HD.out.1 (by have:=HD.out.2;omega) X);have HSZ:=qe (show ∀X:World,Below w.heap.size w X->Calls Tryz.prog 61 #[qX z] X λe w'=>e= .returned (.int .i64 (tr.yD A))/\Below X.heap.size X w' from λX hX=>J2 _ z A hok X (hzf.kept hX));have HNW:=qe (show ∀X:World,Calls Tryz.prog 8 #[.int .i64 (up.QQ x.data),.int .i64 (tr.yD A)] X λe w'=>e= .returned (.bool nb)/\w'=X from λX=>by rw[hnb];exact VE _ _ X);have HP:=qe (show tr.QO (some A) n [x]=if nb=false then .same else .err 10 from by rw[tr.uz HX.out,hnb];rfl);clear hnb hok hzf
   go_enter Tryz.func52,Tryz.ntmps52
   go_upto_region 1 with fail
   go_cut [4] (λsv wx=>sv= .bool (!nb)/\Below w.heap.size w wx)
   case first=>
    go_region_held3 (λX=>Below w.heap.size w X/\X.cell? ⟨t,0,none⟩=some (qX z)/\X.cell? ⟨t,2,none⟩=some (.bool true)/\X.cell? ⟨t,3,none⟩=some (.slice (some ⟨b,off,none⟩) m vc)/\X.cell? ⟨b,off,none⟩=some (.string x.owner)/\X.cell? ⟨b,off+1,none⟩=some (.int .i64 x.typ)/\X.cell? ⟨b,off+2,none⟩=some (.int .i64 x.cls)/\X.cell? ⟨b,off+3,none⟩=some (.int .i64 x.ttl)/\X.cell? ⟨b,off+4,none⟩=some (.string x.data))
     (first | assumption | exact zk.out _ (gJ _ _).drew | (go_split_ands;exact zk.out _ (by assumption)))
     (first
      | (go_at_call 68;(with_reducible refine(HSE.out _).mono ?_);rintro e wX ⟨rfl,hbX⟩;go_split_ands;have uX:=Below.trans (B:=w.heap.size) (a:=w) (by assumption) (hbX.mono (Below.size (by assumption))))
      | (go_at_call 61;(with_reducible refine(HSZ.out _ (by go_split_ands;assumption)).mono ?_);rintro e wX ⟨rfl,hbX⟩;go_split_ands;have uX:=Below.trans (B:=w.heap.size) (a:=w) (by assumption) (hbX.mono (Below.size (by assumption))))
      | (go_at_call 8;(with_reducible refine(HNW.out _).mono ?_);rintro e wN ⟨rfl,hE⟩;obtain rfl:=hE.symm;clear hE))
    all_goals (go_wp2_with fail;go_meet;exact⟨rfl,by first | assumption | (go_split_ands;assumption)⟩)
   obtain⟨rfl,hB1⟩:=hcut;have HB1:=qe hB1;clear hB1;obtain⟨w1,hw1⟩:=yM wc;subst hw1;clear q0 q2 q3 r0 r1 r2 r3 r4;obtain⟨-,-,q0,-,q2,q3⟩:=HT.out.below HB1.out;rw[<- HM.out]at q3;obtain⟨-,r0,r1,r2,r3,r4⟩:=qH (HR.out.below HB1.out) (j:=0) (by simp);simp only[Ho,Nat.zero_mul,Nat.add_zero]at r0 r1 r2 r3 r4
   cases nb
   ·go_wp2_with fail;go_ret2;rw[HP.out];exact⟨HB1.out,rfl⟩
   ·go_wp2_with fail;go_ret2;rw[HP.out];exact⟨by decide,HB1.out,rfl⟩
 ·obtain⟨x2,t2,rfl⟩:∃x2 t2,tl=x2 :: t2:=by
   match tl,htl0 with
   | y :: t,_=>exact⟨y,t,rfl⟩
   | [],h=>exact absurd rfl h
  have hm3:m=t2.length+2:=by have:=HM2.out;simp only[Ha]at this;omega
  have e1:((m:Int) == 1)=false:=by rw[gG];omega
  have HM3:=qe hm3;have e3:1<m:=by omega
  have e4:(1:Int)<(m:Int):=by omega
  have h2:=qH HR.out (j:=1) (by simp);have HB2:=qe h2.1;have HY:=qe (show ∀X,Below w.heap.size w X->X.cell? ⟨b,off+5+1,none⟩=some (.int .i64 x2.typ) from λX hX=>(hX.cell (p:=⟨b,_,none⟩) HB2.out).trans h2.2.2.1);clear hm3 h2 htl0;have HAL:=qe (show ∀X,Below w.heap.size w X->Calls Tryz.prog 91 #[.pointer (some ⟨t,0,none⟩)] X λe w'=>xL (tr.Zt n x (x2 :: t2)) zv X e w' from λX hX=>
   all_any t zv n s x (x2 :: t2) (by simp) (by have:=HL.out;simp only[Ha]at this ⊢;omega) HOK.out _ X (HT.out.below hX))
  cases s
  ·have hzo:Zo=none:=by
    rcases HZ.out with h | h
    ·exact h.2
    ·exact absurd h.1 (by decide)
   subst hzo;have HP:=qe (show tr.QO none n (x :: x2 :: t2)=tr.Zt n x (x2 :: t2) from by rw[tr.Yl HX.out];rfl)
   go_enter Tryz.func52,Tryz.ntmps52
   go_upto_region 1 with fail
   go_quiet (fail)
   obtain⟨w1,hW⟩:=yM (w.drewN nq);rw[<- hW];have HB1:=qe (show Below w.heap.size w w1 from by rw[hW];exact qL (gJ _ _) nq);clear hW;clear q0 q2 q3 r0 r1 r2 r3 r4;obtain⟨-,-,q0,-,q2,q3⟩:=HT.out.below HB1.out;rw[<- HM.out]at q3;obtain⟨-,r0,r1,r2,r3,r4⟩:=qH (HR.out.below HB1.out) (j:=0) (by simp);simp only[Ho,Nat.zero_mul,Nat.add_zero]at r0 r1 r2 r3 r4;go_wp2_with fail;refine(HAL.out w1 HB1.out).mono ?_;intro e w2 hp;obtain⟨-,r1',r2',rfl,hp⟩:=hp.two;have HQ:=qe (xL.from HB1.out hp);clear hp;clear q0 q2 q3 r0 r1 r2 r3 r4;go_wp2_with fail;go_ret2;rw[HP.out];exact HQ.out
  ·obtain⟨A,z,rfl,rfl,hoA,hzf⟩:∃A z,Zo=some A/\zv=qX z/\tr.Ok A/\jB w w.heap.size z A.ap A.l:=by
    rcases HZ.out with h | h
    ·exact absurd h.1 (by decide)
    ·exact h.2
   by_cases h6:x2.typ=6
   ·have HST:=qe (show ∀X,Below w.heap.size w X->Calls Tryz.prog 90 #[.pointer (some ⟨t,0,none⟩)] X λe w'=>xL (tr.jw A x (x2 :: t2)) (qX z) X e w' from λX hX=>
     tsteps_any t z _ A hoA n true x (x2 :: t2) (by have:=HL.out;omega) HOK.out _ X (hzf.kept hX) (HT.out.below hX))
    have HP:=qe (show tr.QO (some A) n (x :: x2 :: t2)=tr.jw A x (x2 :: t2) from by rw[tr.uz HX.out,if_neg (by simp)];exact if_pos h6);have d6:(x2.typ == 6)=true:=by rw[Hz];exact h6
    clear hoA hzf h6
    go_enter Tryz.func52,Tryz.ntmps52
    go_upto_region 1 with fail
    go_quiet (fail)
    obtain⟨w1,hW⟩:=yM (w.drewN nq);rw[<- hW];have HB1:=qe (show Below w.heap.size w w1 from by rw[hW];exact qL (gJ _ _) nq);clear hW;clear q0 q2 q3 r0 r1 r2 r3 r4;obtain⟨-,-,q0,-,q2,q3⟩:=HT.out.below HB1.out;rw[<- HM.out]at q3;obtain⟨-,r0,r1,r2,r3,r4⟩:=qH (HR.out.below HB1.out) (j:=0) (by simp);simp only[Ho,Nat.zero_mul,Nat.add_zero]at r0 r1 r2 r3 r4;have y1:=HY.out w1 HB1.out;go_upto_region 5 with fail;go_wp2_with fail;refine(HST.out w1 HB1.out).mono ?_;clear y1;intro e w2 hp;obtain⟨-,r1',r2',rfl,hp⟩:=hp.two;have HQ:=qe (xL.from HB1.out hp);clear hp;clear q0 q2 q3 r0 r1 r2 r3 r4;go_wp2_with fail;go_ret2;rw[HP.out];exact HQ.out
   ·have HP:=qe (show tr.QO (some A) n (x :: x2 :: t2)=tr.Zt n x (x2 :: t2) from by rw[tr.uz HX.out,if_neg (by simp)];exact if_neg h6);have d6:(x2.typ == 6)=false:=by rw[gG];exact h6
    clear hoA hzf h6
    go_enter Tryz.func52,Tryz.ntmps52
    go_upto_region 1 with fail
    go_quiet (fail)
    obtain⟨w1,hW⟩:=yM (w.drewN nq);rw[<- hW];have HB1:=qe (show Below w.heap.size w w1 from by rw[hW];exact qL (gJ _ _) nq);clear hW;clear q0 q2 q3 r0 r1 r2 r3 r4;obtain⟨-,-,q0,-,q2,q3⟩:=HT.out.below HB1.out;rw[<- HM.out]at q3;obtain⟨-,r0,r1,r2,r3,r4⟩:=qH (HR.out.below HB1.out) (j:=0) (by simp);simp only[Ho,Nat.zero_mul,Nat.add_zero]at r0 r1 r2 r3 r4;have y1:=HY.out w1 HB1.out;go_wp2_with fail;refine(HAL.out w1 HB1.out).mono ?_;clear y1;intro e w2 hp;obtain⟨-,r1',r2',rfl,hp⟩:=hp.two;have HQ:=qe (xL.from HB1.out hp);clear hp;clear q0 q2 q3 r0 r1 r2 r3 r4;go_wp2_with fail;go_ret2;rw[HP.out];exact HQ.out
end Go.Proofs.YtpcmilhjpmlbpaaGreatDoor
