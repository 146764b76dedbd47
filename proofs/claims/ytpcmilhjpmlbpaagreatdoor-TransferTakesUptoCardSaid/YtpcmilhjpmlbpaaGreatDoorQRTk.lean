import Derived.Test.YtpcmilhjpmlbpaaGreatDoorQRSq
import Derived.Test.YtpcmilhjpmlbpaaGreatDoorQRBa
import Derived.Test.YtpcmilhjpmlbpaaGreatDoorQWirC
import Derived.Test.YtpcmilhjpmlbpaaGreatDoorQCpV
import Derived.Deep.RegionLaw
set_option maxRecDepth 100000
set_option maxHeartbeats 32000000
namespace Go.Proofs.YtpcmilhjpmlbpaaGreatDoor
open Go.RowKit Go.Shelf nm od
attribute [local go_sem] Jm qn_if
def Vb (w:World)(v:Value)(Z:Option tr.Zn):Prop:=(Z=none/\v= .pointer none)\/∃A y,Z=some A/\v=qX y/\tr.Ok A/\A.ap.size<=1099511627776/\(∀r∈A.l,r.owner.size<=1099511627776)/\uQ w y A.ap A.l
theorem Vb.below {w w':World}{v:Value}{Z:Option tr.Zn}(h:Vb w v Z)(hB:Below w.heap.size w w'):Vb w' v Z:=by
 rcases h with h | ⟨A,y,h1,h2,h3,h4,h5,h6⟩
 ·exact .inl h
 ·exact .inr ⟨A,y,h1,h2,h3,h4,h5,h6.below hB⟩
def QnB (w:World)(b:Nat)(n:Qn):Prop:=w.heap[b]? =some (.cells #[.string n.name,.int .i64 n.typ,.int .i64 n.cls] 78 (0,0))
theorem QnB.cells {w:World}{b:Nat}{n:Qn}(h:QnB w b n):w.cell? ⟨b,0,none⟩=some (.string n.name)/\w.cell? ⟨b,1,none⟩=some (.int .i64 n.typ)/\w.cell? ⟨b,2,none⟩=some (.int .i64 n.cls):=by
 refine⟨?_,?_,?_⟩ <;> (rw[qg h];rfl)
theorem QnB.below {w w':World}{b:Nat}{n:Qn}(h:QnB w b n)(hB:Below w.heap.size w w'):QnB w' b n:=(hB.block b (zm h)).trans h
namespace tr
theorem bare_one {q:Msg}(h:Y5 q=true):∃n0,q.qs= [n0]/\Xf q=n0/\0<=q.h.id/\q.h.id<=65535:=by
 unfold Y5 at h
 match e:q.qs with
 | []=>rw[e]at h;cases h
 | _ :: _ :: _=>rw[e]at h;cases h
 | [n0]=>
   rw[e]at h;simp only[gX,H7]at h;exact⟨n0,rfl,by unfold Xf;rw[e],h.2.1,h.2.2⟩
def zoneB (Z:Option Zn)(n:Qn)(au:List Rec):Bool:=match Z with
 | some A=>decide (n.typ=251/\n.name=A.ap/\au= [qZ A])
 | none=>false
theorem rest_one (Z:Option Zn){q:Msg}{n:Qn}(h:q.qs= [n]):restB Z q=(if n.typ=252 then qo n.name && decide (q.au.length=0) else zoneB Z n q.au):=by
 unfold restB;rw[h];rfl
end tr
theorem rtake_any (Z:Option tr.Zn)(zv:Value)(hi:Int)(rs:Bool)(op:Int)(b3 b4 b5 b6 b7 b8:Bool)(rc:Int)(qs:List Qn)(an au ad:List Rec)
 (sq:∀x∈qs,x.name.size<=1099511627776)
 (q a u d:Value) (xs:List Msg) (hxl:xs.length<=1000000000) (hrl:(tr.rowsOf xs).length<=10000000)
 (xsz:∀m∈xs,(∀y∈m.qs,y.name.size<=1099511627776)/\(∀y∈m.an,y.owner.size<=1099511627776)/\(∀y∈m.au,y.owner.size<=1099511627776)/\∀y∈m.ad,y.owner.size<=1099511627776)
 (xv:Value) (w:World) (hz:Vb w zv Z) (rq:yw w q qs) (ra:ql w a an) (ru:ql w u au) (rd:ql w d ad) (hx:uf w xv xs):
 Calls Tryz.prog 21 #[zv,yu ⟨hi,rs,op,b3,b4,b5,b6,b7,b8,rc⟩ q a u d,xv] w λe w'=>qU (tr.jf Z ⟨⟨hi,rs,op,b3,b4,b5,b6,b7,b8,rc⟩,qs,an,au,ad⟩ xs) zv w e w':=by
 obtain⟨zp,rfl⟩:∃p,zv= .pointer p:=by
  rcases hz with⟨-,h⟩|⟨A,z,-,h,-⟩
  ·exact⟨_,h⟩
  ·exact⟨_,h⟩
 obtain⟨w1,hw1⟩:=yM (w.alloc (.cells (yT ⟨hi,rs,op,b3,b4,b5,b6,b7,b8,rc⟩ q a u d).toArray 33));obtain⟨hB1,hs1,hm1⟩:=zG hw1;obtain⟨bm,hbm⟩:=yM w.heap.size;rw[<- hbm]at hm1;obtain⟨M0,hM0⟩:=yM ((⟨⟨hi,rs,op,b3,b4,b5,b6,b7,b8,rc⟩,qs,an,au,ad⟩:Msg));obtain⟨bb,hbb⟩:=yM (tr.Y5 M0);have HBA:=qe (show Calls Tryz.prog 54 #[yu ⟨hi,rs,op,b3,b4,b5,b6,b7,b8,rc⟩ q a u d] w1 λe w'=>e= .returned (.bool bb)/\Below w1.heap.size w1 w' from by
  rw[hbb,hM0];exact rbare_any hi rs op b3 b4 b5 b6 b7 b8 rc qs an au ad q a u d w1 (rq.below hB1) (ra.below hB1) (ru.below hB1) (rd.below hB1))
 have HMI:=qe (show M0.h.id=hi by rw[hM0]);have HMQ:=qe (show M0.qs=qs by rw[hM0]);have HMU:=qe (show M0.au=au by rw[hM0]);rw[<- hM0];obtain⟨o0,ho0⟩:=yM (tr.jf Z M0 xs);rw[<- ho0];have HO0:=qe ho0;have HZ:=qe hz;have HQ:=qe rq;have HX:=qe hx;have HU:=qe ru;obtain⟨qa,qc,rfl,-⟩:=id rq;obtain⟨aa,ac,rfl,-⟩:=id ra;obtain⟨ua,uc,rfl,-⟩:=id ru;obtain⟨da,dc,rfl,-⟩:=id rd;obtain⟨xa,xc,rfl,-⟩:=id hx;obtain⟨nu,hnu⟩:=yM au.length;rw[<- hnu]at hm1 hw1 HBA HU ⊢;have HNU:=qe hnu;clear hnu;have HM:=qe hm1;have HW1:=qe hw1;have HBM:=qe hbm;have HB1:=qe hB1;have HXL:=qe hxl;have HRL:=qe hrl;have HBB:=qe hbb;have HSQ:=qe sq;have HXS:=qe xsz;clear hw1 hB1 hs1 hm1 hbm hz rq ra ru rd hM0 hbb hxl hrl hx ho0 sq xsz;have HRF:=qe (gJ w1.heap.size w1);obtain⟨m0,m1,m2,m3,m4,m5,m6,m7,m8,m9,m10,m11,m12,m13⟩:=(HM.out.below HRF.out).facts
 go_enter Tryz.func21,Tryz.ntmps21
 go_upto_region 1 with fail;rw[<- HW1.out,<- HBM.out];go_wp2_with fail;refine HBA.out.mono ?_;rintro e w2 ⟨rfl,hB2⟩;have QW:=qe (gm HB1.out hB2);have ZZ:=qe hB2;clear hB2;clear m0 m1 m2 m3 m4 m5 m6 m7 m8 m9 m10 m11 m12 m13
 cases bb
 ·have HA:=qe (show tr.zA Z M0=false by rw[tr.asked_two,<- HBB.out];rfl);have HE:=qe (show qU o0 (.pointer zp) w (.returned (.tuple #[.pointer none,.int .i64 8])) w2 from by
   rw[HO0.out,tr.xO HA.out];exact⟨by decide,QW.out,rfl⟩)
  go_wp2_with fail;go_ret2;exact HE.out
 ·obtain⟨n0,hqs,hnq,hid0,hid1⟩:=tr.bare_one HBB.out.symm;rw[HMQ.out]at hqs;subst hqs;obtain⟨rb,hrb⟩:=yM (tr.restB Z M0);have HRB:=qe hrb;have HAS:=qe (show tr.zA Z M0=rb by rw[tr.asked_two,<- HBB.out,hrb];rfl);have HR1:=qe (tr.rest_one Z HMQ.out);have HNQ:=qe hnq;obtain⟨qb,Qm,rfl,c0,c1,c2⟩:∃qb Qm,qa=some ⟨qb,Qm,none⟩/\w2.cell? ⟨qb,Qm,none⟩=some (.string n0.name)/\w2.cell? ⟨qb,Qm+1,none⟩=some (.int .i64 n0.typ)/\w2.cell? ⟨qb,Qm+2,none⟩=some (.int .i64 n0.cls):=by
   obtain⟨_,_,hv,-,hr0⟩:=HQ.out.below QW.out;simp only[gL,true_and]at hv;obtain⟨rfl,rfl⟩:=hv;obtain⟨qb,Qm,rfl,hqb,c0,c1,c2⟩:=hr0 0 (by simp);simp only[Nat.zero_mul,Nat.add_zero,Ho]at c0 c1 c2;exact⟨qb,Qm,rfl,c0,c1,c2⟩
  obtain⟨w3,hw3⟩:=yM (w2.alloc (.cells #[.string n0.name,.int .i64 n0.typ,.int .i64 n0.cls] 78));obtain⟨b8q,hb8⟩:=yM w2.heap.size;have hB3:Below w2.heap.size w2 w3:=by rw[hw3];exact(gJ _ _).alloc (gI _) _
  have hq3:QnB w3 b8q n0:=by rw[hw3,hb8];exact qz rfl
  have HQ3:=qe hq3;have HW3:=qe hw3;have HB8:=qe hb8;have Z4:=qe (gm QW.out hB3);have QH:=qe (gm ZZ.out hB3);have m10:=(HM.out.below ZZ.out).facts.2.2.2.2.2.2.2.2.2.2.1;have e3:(0:Int)<(([n0]:List Qn).length:Int):=by simp
  have e4:0<([n0]:List Qn).length:=by simp
  clear hnq hid0 hid1 hrb hw3 hb8 hB3 hq3;go_upto_region 4 with fail;rw[<- HW3.out,<- HB8.out];clear c0 c1 c2 m10 e3 e4;obtain⟨g0,g1,g2⟩:=HQ3.out.cells;obtain⟨s,hs⟩:=yM ((n0.typ == 251));have e2:(n0.typ == 251)=s:=hs.symm;have HS:=qe hs;clear hs;go_upto_region 5 with fail;clear e2 g0 g1 g2
  go_cut [55] (λv wx=>v= .bool (s && !rb)/\Below w3.heap.size w3 wx)
  case first=>
   as_aux_lemma=>
    obtain⟨g0,g1,g2⟩:=HQ3.out.cells;have m12:=(HM.out.below QH.out).facts.2.2.2.2.2.2.2.2.2.2.2.2.1
    cases s
    ·go_quiet (fail)
     go_wp2_with fail;go_meet;exact⟨rfl,qL (gJ _ _) _⟩
    ·have ht:n0.typ=251:=by have:=HS.out;exact of_decide_eq_true this.symm
     have hr1:rb=tr.zoneB Z n0 M0.au:=by rw[HRB.out,HR1.out,if_neg (by rw[ht];decide)]
     rcases HZ.out with⟨rfl,h2⟩|⟨A,y,rfl,h2,hok,hap,hsA,hry⟩
     ·simp only[Value.pointer.injEq]at h2;subst h2;have HF:=qe (show rb=false from hr1);clear hr1 ht
      go_quiet (fail)
      go_wp2_with fail;go_meet;exact⟨by rw[HF.out];rfl,qL (gJ _ _) _⟩
     ·simp only[Value.pointer.injEq]at h2;subst h2;have hr2:rb=decide (n0.typ=251/\n0.name=A.ap/\M0.au= [tr.qZ A]):=hr1;rw[HMU.out]at hr2;have HR2:=qe hr2;have HT:=qe ht;obtain⟨ga,ca,hyc,-⟩:=hry.below Z4.out;have y0:w3.cell? ⟨y,0,none⟩=some (.string A.ap):=by rw[qg hyc];rfl
      clear hr1 hr2 ht;by_cases hnm:n0.name=A.ap
      ·have d1:(n0.name.toList == A.ap.toList)=true:=str_eq.2 hnm;have d2:(n0.name.toList != A.ap.toList)=false:=by unfold bne;rw[d1];rfl
       have HNM:=qe hnm;clear hnm;by_cases hl1:nu=1
       ·have d3:((nu:Int) != 1)=false:=by rw[Hy];omega
        have e1:(0:Int)<(nu:Int):=by omega
        have e2:0<nu:=by omega
        obtain⟨r,hr⟩:∃r,au= [r]:=List.length_eq_one_iff.1 (HNU.out.symm.trans hl1);have HU2:=HU.out;rw[hr]at HU2;obtain⟨ub,Yc,rfl⟩:=jm HU2 (by simp);obtain⟨hbl,r0,r1,r2,r3,r4⟩:=qH HU2 (j:=0) (by simp);simp only[Ho,Nat.zero_mul,Nat.add_zero]at r0 r1 r2 r3 r4;have HF:=qe (show rb=decide (r=tr.qZ A) by
         rw[HR2.out,hr];by_cases h:r=tr.qZ A
         ·rw[gF h];exact gF ⟨HT.out,HNM.out,by rw[h]⟩
         ·rw[gp h];exact gp λh2=>h (by have:=h2.2.2;simpa using this))
        obtain⟨sa,hsa⟩:=yM (tr.qZ A);rw[<- hsa]at HF
        have HSO:=qe (show ∀X,Below w3.heap.size w3 X->Calls Tryz.prog 50 #[qX y] X λe w'=>e= .returned (yf sa)/\Below X.heap.size X w' from λX hX=>by
         rw[hsa];exact rsoa_any y A hok hap X (hry.below (gm Z4.out hX)))
        have zk:=qe (show ∀X,Below w3.heap.size w3 X->Below w3.heap.size w3 X/\X.cell? ⟨b8q,0,none⟩=some (.string n0.name)/\X.cell? ⟨y,0,none⟩=some (.string A.ap)/\X.cell? ⟨bm,12,none⟩=some (.slice (some ⟨ub,Yc,none⟩) nu uc)/\X.cell? ⟨ub,Yc,none⟩=some (.string r.owner)/\X.cell? ⟨ub,Yc+1,none⟩=some (.int .i64 r.typ)/\X.cell? ⟨ub,Yc+2,none⟩=some (.int .i64 r.cls)/\X.cell? ⟨ub,Yc+3,none⟩=some (.int .i64 r.ttl)/\X.cell? ⟨ub,Yc+4,none⟩=some (.string r.data) from λX hX=>
         ⟨hX,(hX.cell (p:=⟨b8q,0,none⟩) (zm HQ3.out)).trans g0,(hX.cell (p:=⟨y,0,none⟩) (zm hyc)).trans y0,(hX.cell (p:=⟨bm,12,none⟩) (World.block_lt_of_cell? _ _ m12)).trans m12,(show Zk w ub Yc r from⟨r0,r1,r2,r3,r4⟩).keep ((gm Z4.out hX).block ub hbl)⟩)
        clear hl1 hr HU2 hbl r0 r1 r2 r3 r4 hsa hok hap hsA hry hyc y0 g0 g1 g2 m12;obtain⟨-,g0,y0,m12,r0,r1,r2,r3,r4⟩:=zk.out w3 (gJ _ _);have g1:=HQ3.out.cells.2.1;by_cases hrs:r=sa
        ·subst hrs;have HF2:=qe (show rb=true by rw[HF.out];simp)
         go_region_held3 (λX=>Below w3.heap.size w3 X/\X.cell? ⟨b8q,0,none⟩=some (.string n0.name)/\X.cell? ⟨y,0,none⟩=some (.string A.ap)/\X.cell? ⟨bm,12,none⟩=some (.slice (some ⟨ub,Yc,none⟩) nu uc)/\X.cell? ⟨ub,Yc,none⟩=some (.string r.owner)/\X.cell? ⟨ub,Yc+1,none⟩=some (.int .i64 r.typ)/\X.cell? ⟨ub,Yc+2,none⟩=some (.int .i64 r.cls)/\X.cell? ⟨ub,Yc+3,none⟩=some (.int .i64 r.ttl)/\X.cell? ⟨ub,Yc+4,none⟩=some (.string r.data))
          (first | assumption | exact zk.out _ (gJ _ _).drew | exact zk.out _ uX | (go_split_ands;exact zk.out _ (by assumption)))
          (first | (go_at_call 50;(with_reducible refine(HSO.out _ (by go_split_ands;assumption)).mono ?_);rintro e wX ⟨rfl,hbX⟩;go_split_ands;have uX:=Below.trans (B:=w3.heap.size) (a:=w3) (by assumption) (hbX.mono (Below.size (by assumption)))))
         all_goals (go_wp2_with fail;go_meet;exact⟨by rw[HF2.out];rfl,uX⟩)
        ·have HF2:=qe (show rb=false by rw[HF.out];exact gp hrs)
         go_region_held3 (λX=>Below w3.heap.size w3 X/\X.cell? ⟨b8q,0,none⟩=some (.string n0.name)/\X.cell? ⟨y,0,none⟩=some (.string A.ap)/\X.cell? ⟨bm,12,none⟩=some (.slice (some ⟨ub,Yc,none⟩) nu uc)/\X.cell? ⟨ub,Yc,none⟩=some (.string r.owner)/\X.cell? ⟨ub,Yc+1,none⟩=some (.int .i64 r.typ)/\X.cell? ⟨ub,Yc+2,none⟩=some (.int .i64 r.cls)/\X.cell? ⟨ub,Yc+3,none⟩=some (.int .i64 r.ttl)/\X.cell? ⟨ub,Yc+4,none⟩=some (.string r.data))
          (first | assumption | exact zk.out _ (gJ _ _).drew | exact zk.out _ uX | (go_split_ands;exact zk.out _ (by assumption)))
          (first | (go_at_call 50;(with_reducible refine(HSO.out _ (by go_split_ands;assumption)).mono ?_);rintro e wX ⟨rfl,hbX⟩;go_split_ands;have uX:=Below.trans (B:=w3.heap.size) (a:=w3) (by assumption) (hbX.mono (Below.size (by assumption)))))
         all_goals (go_wp2_with fail;go_meet;exact⟨by rw[HF2.out];rfl,uX⟩)
       ·have d3:((nu:Int) != 1)=true:=by rw[bne_iff_ne];omega
        have HF:=qe (show rb=false by
         rw[HR2.out];exact gp λh=>hl1 (by rw[HNU.out,h.2.2];rfl))
        clear hl1
        go_quiet (fail)
        go_wp2_with fail;go_meet;exact⟨by rw[HF.out];rfl,qL (gJ _ _) _⟩
      ·have d1:=str_ne hnm;have d2:(n0.name.toList != A.ap.toList)=true:=by unfold bne;rw[d1];rfl
       have HF:=qe (show rb=false by
        rw[HR2.out];exact gp λh=>hnm h.2.1)
       clear hnm
       go_quiet (fail)
       go_wp2_with fail;go_meet;exact⟨by rw[HF.out];rfl,qL (gJ _ _) _⟩
  obtain⟨rfl,hB4⟩:=hcut;obtain⟨w4,hw4⟩:=yM wc;subst hw4;have HB4:=qe (gm Z4.out hB4);have jE:=qe (gm QH.out hB4);have HQ4:=qe (HQ3.out.below hB4);clear hB4
  go_upto_if 55 with fail
  cases rb
  ·as_aux_lemma=>
    have HA:=qe (show tr.zA Z M0=false from HAS.out)
    cases s
    ·obtain⟨g0,g1,g2⟩:=HQ4.out.cells;have m12:=(HM.out.below jE.out).facts.2.2.2.2.2.2.2.2.2.2.2.2.1;have hne:n0.typ≠251:=λh=>by have:=HS.out;rw[h]at this;cases this
     by_cases ht:n0.typ=252
     ·have d1:(n0.typ != 252)=false:=by rw[Hy];exact ht
      have hr1:=HRB.out;rw[HR1.out,if_pos ht,HMU.out]at hr1;by_cases hu0:nu=0
      ·have d2:decide ((0:Int)<(nu:Int))=false:=gp (by omega);have hcb:qo n0.name=false:=by
        rw[show decide (au.length=0)=true from gF (by have:=HNU.out;omega),Bool.and_true]at hr1;exact hr1.symm
       have HIN:=qe (zu n0.name (HSQ.out n0 (by simp)) w4);rw[hcb]at HIN;clear hr1 hne ht hcb d2;subst hu0;go_wp2_with fail;refine HIN.out.mono ?_;rintro e w5 ⟨rfl,hB5⟩;have HB5:=qe (gm HB4.out hB5);clear hB5;have HE:=qe (show qU o0 (.pointer zp) w (.returned (.tuple #[.pointer none,.int .i64 8])) w5 from by
        rw[HO0.out,tr.xO HA.out];exact⟨by decide,HB5.out,rfl⟩)
       go_wp2_with fail;go_ret2;exact HE.out
      ·have d2:(0:Int)<(nu:Int):=by omega
       clear hr1 hne ht hu0;have HE:=qe (show qU o0 (.pointer zp) w (.returned (.tuple #[.pointer none,.int .i64 8])) w4 from by
        rw[HO0.out,tr.xO HA.out];exact⟨by decide,HB4.out,rfl⟩)
       go_wp2_with fail;go_ret2;exact HE.out
     ·have d1:(n0.typ != 252)=true:=by rw[bne_iff_ne];exact ht
      clear hne ht;have HE:=qe (show qU o0 (.pointer zp) w (.returned (.tuple #[.pointer none,.int .i64 8])) w4 from by
       rw[HO0.out,tr.xO HA.out];exact⟨by decide,HB4.out,rfl⟩)
      go_wp2_with fail;go_ret2;exact HE.out
    ·have HE:=qe (show qU o0 (.pointer zp) w (.returned (.tuple #[.pointer none,.int .i64 8])) w4 from by
      rw[HO0.out,tr.xO HA.out];exact⟨by decide,HB4.out,rfl⟩)
     go_wp2_with fail;go_ret2;exact HE.out
  ·have HA:=qe (show tr.zA Z M0=true from HAS.out);have HZS:=qe (show(s=false/\n0.typ≠251)\/(s=true/\n0.typ=251/\∃A y,Z=some A/\zp=some ⟨y,0,none⟩/\tr.Ok A/\A.ap.size<=1099511627776/\(∀r∈A.l,r.owner.size<=1099511627776)/\uQ w y A.ap A.l) from by
    by_cases ht:n0.typ=251
    ·right;refine⟨by rw[HS.out,ht];rfl,ht,?_⟩;have hr1:=HRB.out;rw[HR1.out,if_neg (by rw[ht];decide)]at hr1;rcases HZ.out with⟨h1,-⟩|⟨A,y,h1,h2,h3⟩
     ·rw[h1]at hr1;cases hr1
     ·simp only[Value.pointer.injEq]at h2;exact⟨A,y,h1,h2,h3⟩
    ·exact .inl ⟨by rw[HS.out];exact beq_eq_false_iff_ne.2 ht,ht⟩)
   have hsb:(s && !true)=false:=by cases s <;> rfl
   rw[hsb];clear hsb;go_upto_region 7 with fail
   go_cut [74] (λv wx=>v= .bool false/\Below w4.heap.size w4 wx)
   case first=>
    as_aux_lemma=>
     cases s
     ·obtain⟨g0,g1,g2⟩:=HQ4.out.cells;have m12:=(HM.out.below jE.out).facts.2.2.2.2.2.2.2.2.2.2.2.2.1;have hne:n0.typ≠251:=λh=>by have:=HS.out;rw[h]at this;cases this
      have hr1:=HRB.out;rw[HR1.out]at hr1
      have ht:n0.typ=252:=Classical.byContradiction λh=>by
       rw[if_neg h]at hr1;unfold tr.zoneB at hr1
       cases Z with
       | none=>cases hr1
       | some A=>exact hne (of_decide_eq_true hr1.symm).1
      rw[if_pos ht,HMU.out]at hr1;have hr2:=hr1.symm;rw[gX,H7]at hr2;have d1:(n0.typ != 252)=false:=by rw[Hy];exact ht
      have d2:decide ((0:Int)<(nu:Int))=false:=gp (by have:=HNU.out;omega);have d3:decide (0<nu)=false:=gp (by have:=HNU.out;omega);have HIN:=qe (zu n0.name (HSQ.out n0 (by simp)) w4);rw[hr2.1]at HIN;clear hne hr1 ht hr2;go_wp2_with fail;refine HIN.out.mono ?_;rintro e w5 ⟨rfl,hB5⟩;have HB5:=qe hB5;clear hB5;go_wp2_with fail;go_meet;exact⟨rfl,HB5.out⟩
     ·go_wp2_with fail;go_meet;exact⟨rfl,gJ _ _⟩
   obtain⟨rfl,hB5⟩:=hcut;obtain⟨w5,hw5⟩:=yM wc;subst hw5;have HB5:=qe (gm HB4.out hB5);have Jb:=qe (gm jE.out hB5);have HQ5:=qe (HQ4.out.below hB5);clear hB5;by_cases hx0:xs.length=0
   ·obtain rfl:xs= []:=Hm hx0;clear hx0;have HE:=qe (show qU o0 (.pointer zp) w (.returned (.tuple #[.pointer none,.int .i64 10])) w5 from by
     rw[HO0.out,tr.take_nil HA.out];exact⟨by decide,HB5.out,rfl⟩)
    go_wp2_with fail;go_ret2;exact HE.out
   ·have e1:((xs.length:Int) == 0)=false:=by rw[gG];omega
    have HX0:=qe hx0;clear hx0;go_wp2_with fail;clear e1
    go_loopw [80,10] (λkv lv wr=>∃(k:Nat) (lx:Value),k<=xs.length/\kv= .int .i64 (k:Int)/\lx=lv/\Hid (∀j (hj:j<xs.length),j<k->tr.xH M0 xs[j]=false)/\Hid (Below w5.heap.size w5 wr)/\Hid (wr.ownsRow w5.heap.size 80 5 lx (tr.rowsOf (xs.take k)).length (qw (tr.rowsOf (xs.take k))))) (λkv _ _=>xs.length-(intOf kv).toNat)
    case atStart=>exact⟨0,_,gU _,rfl,rfl,qe (λj hj h=>absurd h (Nat.not_lt_zero _)),qe (gJ _ _),qe (gZ _ _ _ _)⟩
    case round=>
     obtain⟨k,lv,hk,rfl,rfl,HN,HB5R,HO⟩:=hrel;obtain⟨wr4,hw4⟩:=yM wr;subst hw4;have XN:=qe (gm HB5.out HB5R.out);have HB1R:=qe (gm Jb.out HB5R.out);by_cases hlt:k<xs.length
     ·as_aux_lemma=>
       have hki:(k:Int)<(xs.length:Int):=by omega
       have ek:IntKind.i64.wrap ((k:Int)+1)=(k:Int)+1:=Hg _ (by have:=HXL.out;omega);obtain⟨xb,xoff,mq,ma,mu,md,rfl,⟨c0,c1,c2,c3,c4,c5,c6,c7,c8,c9,c10,c11,c12,c13⟩,hin,hle⟩:=xW (HX.out.below XN.out) hlt;obtain⟨M,hM⟩:=yM (xs[k]);have hsz:=HXS.out xs[k] (Ht hlt);rw[<- hM]at c0 c1 c2 c3 c4 c5 c6 c7 c8 c9 hin hle hsz;obtain⟨mb,hmb⟩:=yM (wi.jL M.h M.qs M.an M.au M.ad)
       have HCK:=qe (show ∀X,Below wr4.heap.size wr4 X->Calls Tryz.prog 40 #[yu M.h mq ma mu md] X λe w'=>e= .returned (.int .i64 (wi.okI mb))/\Below X.heap.size X w' from λX hX=>by
        have h:=hin.below hX;rw[hmb];exact rwcheck_any M.h M.qs M.an M.au M.ad hle.1 hle.2.1 hle.2.2.1 hle.2.2.2 mq ma mu md X hsz.1 hsz.2.1 hsz.2.2.1 hsz.2.2.2 h.rq h.ra h.ru h.rd)
       obtain⟨eb,heb⟩:=yM (decide (M.qs= [n0]));obtain⟨mqa,mqc,rfl,-⟩:=id hin.rq;obtain⟨maa,mac,rfl,-⟩:=id hin.ra;obtain⟨mua,muc,rfl,-⟩:=id hin.ru;obtain⟨mda,mdc,rfl,-⟩:=id hin.rd;obtain⟨nmq,hnmq⟩:=yM M.qs.length;have hrq:=hin.rq;rw[<- hnmq]at HCK c10 hrq;obtain⟨w6,hw6⟩:=yM (wr4.alloc (.cells (yT M.h (.slice mqa nmq mqc) (.slice maa M.an.length mac) (.slice mua M.au.length muc) (.slice mda M.ad.length mdc)).toArray 33));obtain⟨hB6,hs6,hm6⟩:=zG hw6;obtain⟨bx,hbx⟩:=yM wr4.heap.size;rw[<- hbx]at hm6;have HMX:=qe hM;have HW6:=qe hw6;have HB46:=qe hB6;have HM6:=qe hm6;have HBX:=qe hbx;have HMB:=qe hmb;have HEB:=qe heb;have HLT:=qe hlt;have HMQN:=qe hnmq;have HRQ:=qe (hrq.below hB6);have HRA:=qe (hin.ra.below hB6);have Jc:=qe (gm XN.out hB6);have Vh:=qe (gm HB1R.out hB6);have HB56:=qe (gm HB5R.out hB6);have HQ6:=qe (HQ5.out.below HB56.out);have hrn:=tr.rows_next (xs:=xs) hlt;rw[<- hM]at hrn;have HRN:=qe hrn;have HLN:=qe (show(tr.rowsOf (xs.take k)).length+M.an.length<=1000000000 by
        have h1:=tr.rows_le (xs:=xs) (k:=k+1);rw[hrn,gK]at h1;have:=HRL.out;omega)
       clear hM hin hle hw6 hB6 hs6 hm6 hbx hmb heb hnmq hrq hrn hsz;go_upto_region 15 with fail;rw[<- HW6.out,<- HBX.out];clear c0 c1 c2 c3 c4 c5 c6 c7 c8 c9 c10 c11 c12 c13
       go_cut [13] (λv wx=>v= .bool eb/\Below w6.heap.size w6 wx)
       case first=>
        as_aux_lemma=>
         obtain⟨x0,x1,x2,x3,x4,x5,x6,x7,x8,x9,x10,x11,x12,x13⟩:=HM6.out.facts;obtain⟨g0,g1,g2⟩:=HQ6.out.cells;by_cases h1:nmq=1
         ·have d1:((nmq:Int) == 1)=true:=by rw[Hz];omega
          have i1:(0:Int)<(nmq:Int):=by omega
          have i2:0<nmq:=by omega
          obtain⟨n1,hn1⟩:=List.length_eq_one_iff.1 (HMQN.out.symm.trans h1);have hr:=HRQ.out;rw[hn1]at hr;obtain⟨_,_,hv,-,hr0⟩:=hr;simp only[gL]at hv;obtain⟨rfl,-,-⟩:=hv;obtain⟨nb,noff,rfl,-,q0,q1,q2⟩:=hr0 0 (by simp);simp only[Nat.zero_mul,Nat.add_zero,Ho]at q0 q1 q2;have heb:=HEB.out;rw[hn1]at heb;clear h1 hn1 hr0;by_cases hqn:n1=n0
          ·subst hqn;have HF:=qe (show eb=true by rw[heb];simp);clear heb
           go_quiet (fail)
           go_wp2_with fail;go_meet;exact⟨by rw[HF.out],qL (gJ _ _) _⟩
          ·have HF:=qe (show eb=false by rw[heb];exact gp λh=>hqn (by simpa using h));clear heb
           go_quiet (fail)
           go_wp2_with fail;go_meet;exact⟨by rw[HF.out],qL (gJ _ _) _⟩
         ·have d1:((nmq:Int) == 1)=false:=by rw[gG];omega
          have HF:=qe (show eb=false by rw[HEB.out];exact gp λh=>h1 (by rw[HMQN.out,h];rfl));clear h1
          go_quiet (fail)
          go_wp2_with fail;go_meet;exact⟨by rw[HF.out],qL (gJ _ _) _⟩
       obtain⟨rfl,hB7⟩:=hcut;obtain⟨w7,hw7⟩:=yM wc;subst hw7;have HB47:=qe (gm HB46.out hB7);have HB07:=qe (gm Jc.out hB7);have HB17:=qe (gm Vh.out hB7);have HB57:=qe (gm HB56.out hB7);have HM7:=qe (HM6.out.below hB7);have HRA7:=qe (HRA.out.below hB7);clear hB7;obtain⟨x0,x1,x2,x3,x4,x5,x6,x7,x8,x9,x10,x11,x12,x13⟩:=HM7.out.facts;go_wp2_with fail;refine(HCK.out w7 HB47.out).mono ?_;rintro e w8 ⟨rfl,hB8⟩;have HB48:=qe (gm HB47.out hB8);have HB08:=qe (gm HB07.out hB8);have HB18:=qe (gm HB17.out hB8);have HB58:=qe (gm HB57.out hB8);have HM8:=qe (HM7.out.below hB8);have HRA8:=qe (HRA7.out.below hB8);clear hB8 x0 x1 x2 x3 x4 x5 x6 x7 x8 x9 x10 x11 x12 x13;obtain⟨x0,x1,x2,x3,x4,x5,x6,x7,x8,x9,x10,x11,x12,x13⟩:=HM8.out.facts;have m0:=(HM.out.below HB18.out).facts.1;have HBAD:=qe (show tr.xH M0 M=true->tr.jf Z M0 xs= .err 8 from λh=>tr.Q7 HA.out HLT.out (by rw[<- HMX.out];exact h))
       cases mb
       ·have d0:(wi.okI false != 0)=true:=rfl;have HBD:=qe (HBAD.out (by unfold tr.xH;rw[<- HMB.out];rfl));have HE:=qe (show qU o0 (.pointer zp) w (.returned (.tuple #[.pointer none,.int .i64 8])) w8 from by
         rw[HO0.out,HBD.out];exact⟨by decide,HB08.out,rfl⟩)
        go_wp2_with fail;go_ret2;exact HE.out
       ·have d0:(wi.okI true != 0)=false:=rfl
        cases hrs:M.h.KW
        ·have HBD:=qe (HBAD.out (by unfold tr.xH;rw[hrs];simp));have HE:=qe (show qU o0 (.pointer zp) w (.returned (.tuple #[.pointer none,.int .i64 8])) w8 from by
          rw[HO0.out,HBD.out];exact⟨by decide,HB08.out,rfl⟩)
         go_wp2_with fail;go_ret2;exact HE.out
        ·by_cases hid:M.h.id=hi
         ·have d1:(M.h.id != hi)=false:=by rw[Hy];exact hid
          have HID:=qe hid;clear hid;by_cases hop:M.h.op=0
          ·have d2:(M.h.op != 0)=false:=by rw[Hy];exact hop
           have HOP:=qe hop;clear hop
           cases eb
           ·have HBD:=qe (HBAD.out (by unfold tr.xH;rw[HMQ.out,<- HEB.out];simp));have HE:=qe (show qU o0 (.pointer zp) w (.returned (.tuple #[.pointer none,.int .i64 8])) w8 from by
             rw[HO0.out,HBD.out];exact⟨by decide,HB08.out,rfl⟩)
            go_wp2_with fail;go_ret2;exact HE.out
           ·by_cases hau:M.au.length=0
            ·have d3:¬((0:Int)<(M.au.length:Int)):=by omega
             have HN2:=qe (show ∀j (hj:j<xs.length),j<k+1->tr.xH M0 xs[j]=false from λj hj h=>by
              by_cases e:j<k
              ·exact HN.out j hj e
              ·obtain rfl:j=k:=by omega
               rw[<- HMX.out];unfold tr.xH;rw[<- HMB.out,hrs,HID.out,HMI.out,HOP.out,HMQ.out,<- HEB.out,hau];simp)
             have HO8:=qe (ownsRow_below HO.out HB48.out);clear hau;go_wp2_with (at_builtin;refine Ki rfl _ _ rfl w5.heap.size _ _ _ rfl HO8.out _ M.an HRA8.out rfl HLN.out HB58.out.size ?_);intro vP wP hoP hgP hnP;have HOP9:=qe (show wP.ownsRow w5.heap.size 80 5 vP (tr.rowsOf (xs.take (k+1))).length (qw (tr.rowsOf (xs.take (k+1)))) by rw[HRN.out];exact jX rfl rfl hoP);have HBP:=qe (HB58.out.grown hgP HB58.out.size (λj hj=>(HO8.out.lt j hj).1));clear hoP hgP hnP x0 x1 x2 x3 x4 x5 x6 x7 x8 x9 x10 x11 x12 x13 m0;go_wp2_with fail
             go_roundw
             case rel=>exact⟨k+1,_,by have:=HLT.out;omega,by go_num,rfl,HN2,HBP,HOP9⟩
             case measure=>simp[intOf];omega
            ·have d3:(0:Int)<(M.au.length:Int):=by omega
             have HBD:=qe (HBAD.out (by unfold tr.xH;simp[hau]));have HE:=qe (show qU o0 (.pointer zp) w (.returned (.tuple #[.pointer none,.int .i64 8])) w8 from by
              rw[HO0.out,HBD.out];exact⟨by decide,HB08.out,rfl⟩)
             go_wp2_with fail;go_ret2;exact HE.out
          ·have d2:(M.h.op != 0)=true:=by rw[bne_iff_ne];exact hop
           have HBD:=qe (HBAD.out (by unfold tr.xH;simp[hop]));have HE:=qe (show qU o0 (.pointer zp) w (.returned (.tuple #[.pointer none,.int .i64 8])) w8 from by
            rw[HO0.out,HBD.out];exact⟨by decide,HB08.out,rfl⟩)
           go_wp2_with fail;go_ret2;exact HE.out
         ·have d1:(M.h.id != hi)=true:=by rw[bne_iff_ne];exact hid
          have HBD:=qe (HBAD.out (by unfold tr.xH;rw[HMI.out];simp[hid]));have HE:=qe (show qU o0 (.pointer zp) w (.returned (.tuple #[.pointer none,.int .i64 8])) w8 from by
           rw[HO0.out,HBD.out];exact⟨by decide,HB08.out,rfl⟩)
          go_wp2_with fail;go_ret2;exact HE.out
     ·have HNA:=qe (show ∀j (hj:j<xs.length),tr.xH M0 xs[j]=false from λj hj=>HN.out j hj (by omega));have HOA:=qe (show wr4.ownsRow w5.heap.size 80 5 lv (tr.rowsOf xs).length (qw (tr.rowsOf xs)) by
       have h:=HO.out;rw[List.take_of_length_le (by omega)]at h;exact h)
      obtain rfl:k=xs.length:=by omega
      clear hlt hk;go_wp2_with fail
      go_loopw [133] (λkv wr=>∃k:Nat,k<=xs.length/\kv= .int .i64 (k:Int)/\Hid (∀j (hj:j<xs.length),j<k->xs[j].h.yL=0)/\Hid (Below wr4.heap.size wr4 wr)) (λkv _=>xs.length-(intOf kv).toNat)
      case atStart=>exact⟨0,gU _,rfl,qe (λj hj h=>absurd h (Nat.not_lt_zero _)),qe (gJ _ _)⟩
      case round=>
       obtain⟨k,hk,rfl,HC,HB4R⟩:=hrel;obtain⟨wr5,hw5⟩:=yM wr;subst hw5;have HB0S:=qe (gm XN.out HB4R.out);by_cases hlt:k<xs.length
       ·as_aux_lemma=>
         have hki:(k:Int)<(xs.length:Int):=by omega
         have ek:IntKind.i64.wrap ((k:Int)+1)=(k:Int)+1:=Hg _ (by have:=HXL.out;omega);obtain⟨xb,xoff,mq,ma,mu,md,rfl,⟨c0,c1,c2,c3,c4,c5,c6,c7,c8,c9,c10,c11,c12,c13⟩,hin,-⟩:=xW (HX.out.below HB0S.out) hlt;obtain⟨M,hM⟩:=yM (xs[k]);rw[<- hM]at c0 c1 c2 c3 c4 c5 c6 c7 c8 c9 hin;obtain⟨mqa,mqc,rfl,-⟩:=id hin.rq;obtain⟨maa,mac,rfl,-⟩:=id hin.ra;obtain⟨mua,muc,rfl,-⟩:=id hin.ru;obtain⟨mda,mdc,rfl,-⟩:=id hin.rd;obtain⟨w6,hw6⟩:=yM (wr5.alloc (.cells (yT M.h (.slice mqa M.qs.length mqc) (.slice maa M.an.length mac) (.slice mua M.au.length muc) (.slice mda M.ad.length mdc)).toArray 33));obtain⟨hB6,hs6,hm6⟩:=zG hw6;obtain⟨bx,hbx⟩:=yM wr5.heap.size;rw[<- hbx]at hm6;have HMX:=qe hM;have HW6:=qe hw6;have HM6:=qe hm6;have HBX:=qe hbx;have HLT:=qe hlt;have Jc:=qe (gm HB0S.out hB6);have HB46:=qe (gm HB4R.out hB6);clear hM hin hw6 hB6 hs6 hm6 hbx;go_upto_region 23 with fail;rw[<- HW6.out,<- HBX.out];clear c0 c1 c2 c3 c4 c5 c6 c7 c8 c9 c10 c11 c12 c13;obtain⟨x0,x1,x2,x3,x4,x5,x6,x7,x8,x9,x10,x11,x12,x13⟩:=HM6.out.facts;by_cases hrc:M.h.yL=0
         ·have d0:(M.h.yL != 0)=false:=by rw[Hy];exact hrc
          have HC2:=qe (show ∀j (hj:j<xs.length),j<k+1->xs[j].h.yL=0 from λj hj h=>by
           by_cases e:j<k
           ·exact HC.out j hj e
           ·obtain rfl:j=k:=by omega
            rw[<- HMX.out];exact hrc)
          clear hrc;go_wp2_with fail
          go_roundw
          case rel=>exact⟨k+1,by have:=HLT.out;omega,by go_num,HC2,HB46⟩
          case measure=>simp[intOf];omega
         ·have d0:(M.h.yL != 0)=true:=by rw[bne_iff_ne];exact hrc
          have HTC:=qe (tr.take_code HA.out HNA.out HLT.out (by rw[<- HMX.out];exact hrc));clear hrc;have HE:=qe (show qU o0 (.pointer zp) w (.returned (.tuple #[.pointer none,.int .i64 28])) w6 from by
           rw[HO0.out,HTC.out];exact⟨by decide,Jc.out,rfl⟩)
          go_wp2_with fail;go_ret2;exact HE.out
       ·have HCA:=qe (show ∀j (hj:j<xs.length),xs[j].h.yL=0 from λj hj=>HC.out j hj (by omega));have HTR:=qe (tr.take_row HA.out HX0.out HNA.out HCA.out)
        have hal:∀r∈tr.rowsOf xs,wi.qP r=true/\r.owner.size<=1099511627776:=λr hr=>by
         unfold tr.rowsOf at hr;obtain⟨m,hm,hr⟩:=List.mem_flatMap.1 hr;obtain⟨j,hj,rfl⟩:=List.getElem_of_mem hm;exact⟨tr.bad_rows (HNA.out j hj) r hr,(HXS.out xs[j] hm).2.1 r hr⟩
        have htr:=HTR.out;rw[HNQ.out]at htr;have hoa:=ownsRow_below HOA.out HB4R.out;obtain⟨Zo,hZo⟩:=yM ((if n0.typ=251 then Z else none));rw[<- hZo]at htr;obtain⟨R,hR⟩:=yM (tr.rowsOf xs);have hrl:=HRL.out;rw[<- hR]at hal htr hrl hoa;have HAL:=qe hal;have HTK:=qe (show tr.jf Z M0 xs=tr.QO Zo n0.name R from htr);have HRR:=qe hrl;have HOR:=qe hoa;have HZO:=qe hZo;have HQR:=qe (HQ5.out.below (gm HB5R.out HB4R.out));obtain⟨la,lc,rfl,hlc⟩:=qj hoa;have HLC:=qe hlc;obtain rfl:k=xs.length:=by omega
        clear hlt hk hR hal htr hrl hoa hZo hlc HTR HO HOA
        cases R with
        | nil=>
          have HT5:=qe (show tr.jf Z M0 xs= .err 15 from HTK.out.trans rfl);go_upto_region 26 with fail
          go_quiet (fail)
          obtain⟨w6,hw6⟩:=yM (wr5.drewN nq);rw[<- hw6];have Jc:=qe (show Below w.heap.size w w6 from by rw[hw6];exact HB0S.out.trans ((qL (gJ _ _) nq).mono HB0S.out.size));clear hw6;have HE:=qe (show qU o0 (.pointer zp) w (.returned (.tuple #[.pointer none,.int .i64 15])) w6 from by
           rw[HO0.out,HT5.out];exact⟨by decide,Jc.out,rfl⟩)
          go_wp2_with fail;go_ret2;exact HE.out
        | cons x tl=>
          obtain⟨rg,ro,rfl⟩:=jm (qF HOR.out) (by simp);have HRC:=qe (qF HOR.out);obtain⟨hrg,r0,r1,r2,r3,r4⟩:=qH HRC.out (j:=0) (by simp);simp only[Ho,Nat.zero_mul,Nat.add_zero]at r0 r1 r2 r3 r4;obtain⟨m,hm⟩:=yM ((x :: tl).length);have hm2:m=tl.length+1:=by rw[hm];rfl
          rw[<- hm]at HLC HRC ⊢;have HM2:=qe hm2;have e5:((m:Int) == 0)=false:=by rw[gG];omega
          have e6:(0:Int)<(m:Int):=by omega
          have e7:0<m:=by omega
          obtain⟨gb,hgb⟩:=yM (decide (x.typ≠6\/x.data.size=0\/qG x.owner n0.name=false));have HGB:=qe hgb;have HXSZ:=qe (HAL.out x (by simp));have zk:=qe (show ∀X,Below wr5.heap.size wr5 X->Below wr5.heap.size wr5 X/\X.cell? ⟨b8q,0,none⟩=some (.string n0.name)/\X.cell? ⟨rg,ro,none⟩=some (.string x.owner)/\X.cell? ⟨rg,ro+1,none⟩=some (.int .i64 x.typ)/\X.cell? ⟨rg,ro+2,none⟩=some (.int .i64 x.cls)/\X.cell? ⟨rg,ro+3,none⟩=some (.int .i64 x.ttl)/\X.cell? ⟨rg,ro+4,none⟩=some (.string x.data) from λX hX=>
           ⟨hX,(HQR.out.below hX).cells.1,(show Zk wr5 rg ro x from⟨r0,r1,r2,r3,r4⟩).keep (hX.block rg hrg)⟩)
          clear hm hm2 hgb hrg;go_upto_region 26 with fail
          go_cut [167] (λv wx=>v= .bool gb/\Below wr5.heap.size wr5 wx)
          case first=>
           as_aux_lemma=>
            have g0:=HQR.out.cells.1;by_cases k6:x.typ=6
            ·have e10:(x.typ != 6)=false:=by rw[Hy];exact k6
             by_cases kd:x.data.size=0
             ·have e11:=yR kd;have HF:=qe (show gb=true by rw[HGB.out];exact gF (.inr (.inl kd)));clear kd k6
              go_quiet (fail)
              go_wp2_with fail;go_meet;exact⟨by rw[HF.out],qL (gJ _ _) _⟩
             ·have e11:=jq kd;obtain⟨eb,heb⟩:=yM (qG x.owner n0.name);have HF:=qe (show gb= !eb by
               rw[HGB.out,heb]
               cases h:qG x.owner n0.name
               ·exact gF (.inr (.inr rfl))
               ·exact gp (by rintro(h1 | h1 | h1);exact h1 k6;exact kd h1;cases h1))
              have HEN:=qe (show ∀X,Calls Tryz.prog 55 #[.string x.owner,.string n0.name] X λe w'=>e= .returned (.bool eb)/\Below X.heap.size X w' from λX=>by rw[heb];exact zT x.owner n0.name HXSZ.out.2 (HSQ.out n0 (by simp)) X);clear kd k6 heb
              go_region_held3 (λX=>Below wr5.heap.size wr5 X/\X.cell? ⟨b8q,0,none⟩=some (.string n0.name)/\X.cell? ⟨rg,ro,none⟩=some (.string x.owner)/\X.cell? ⟨rg,ro+1,none⟩=some (.int .i64 x.typ)/\X.cell? ⟨rg,ro+2,none⟩=some (.int .i64 x.cls)/\X.cell? ⟨rg,ro+3,none⟩=some (.int .i64 x.ttl)/\X.cell? ⟨rg,ro+4,none⟩=some (.string x.data))
               (first | assumption | exact zk.out _ (gJ _ _).drew | (go_split_ands;exact zk.out _ (by assumption)))
               (first | (go_at_call 55;(with_reducible refine(HEN.out _).mono ?_);rintro e wX ⟨rfl,hbX⟩;go_split_ands;have uX:=Below.trans (B:=wr5.heap.size) (a:=wr5) (by assumption) (hbX.mono (Below.size (by assumption)))))
              all_goals (go_wp2_with fail;go_meet;exact⟨by rw[HF.out],uX⟩)
            ·have e10:(x.typ != 6)=true:=by rw[bne_iff_ne];exact k6
             have HF:=qe (show gb=true by rw[HGB.out];exact gF (.inl k6));clear k6
             go_quiet (fail)
             go_wp2_with fail;go_meet;exact⟨by rw[HF.out],qL (gJ _ _) _⟩
          obtain⟨rfl,vZ⟩:=hcut;obtain⟨w10,hw10⟩:=yM wc;subst hw10;have yt:=qe (gm HB0S.out vZ);have HB5X:=qe vZ;clear vZ r0 r1 r2 r3 r4 e5
          cases gb
          ·have HXC:=qe (of_decide_eq_false HGB.out.symm);have HD:=qe (right_soa HXSZ.out.1 (Classical.byContradiction λh=>HXC.out (.inl h)) (λh=>HXC.out (.inr (.inl h))));have HRX:=qe (show ∀X,Below w10.heap.size w10 X->ql X (.slice (some ⟨rg,ro,none⟩) m lc) (x :: tl) from λX hX=>HRC.out.below (gm HB5X.out hX));have Je:=qe (show ∀X,Below w10.heap.size w10 X->Below w10.heap.size w10 X/\X.cell? ⟨b8q,0,none⟩=some (.string n0.name)/\X.cell? ⟨rg,ro,none⟩=some (.string x.owner)/\X.cell? ⟨rg,ro+1,none⟩=some (.int .i64 x.typ)/\X.cell? ⟨rg,ro+2,none⟩=some (.int .i64 x.cls)/\X.cell? ⟨rg,ro+3,none⟩=some (.int .i64 x.ttl)/\X.cell? ⟨rg,ro+4,none⟩=some (.string x.data) from λX hX=>
            ⟨hX,(zk.out X (gm HB5X.out hX)).2⟩)
           clear zk;by_cases htl0:tl= []
           ·as_aux_lemma=>
             subst htl0;have e1:((m:Int) == 1)=true:=by rw[Hz];have h:=HM2.out;simp only[List.length_nil]at h;omega
             rcases HZS.out with⟨rfl,hne⟩|⟨rfl,h251,A,y,hZA,rfl,hok,hap,hsA,hry⟩
             ·have HP:=qe (show tr.jf Z M0 xs= .err 10 from HTK.out.trans (by rw[HZO.out,if_neg hne,tr.Yl HXC.out];rfl));clear hne;have HE:=qe (show qU o0 (.pointer zp) w (.returned (.tuple #[.pointer none,.int .i64 10])) w10 from by
               rw[HO0.out,HP.out];exact⟨by decide,yt.out,rfl⟩)
              go_wp2_with fail;go_ret2;exact HE.out
             ·obtain⟨nb,hnb⟩:=yM (tr.zU (up.QQ x.data) (tr.yD A));have HP:=qe (show tr.jf Z M0 xs=if nb=false then .same else .err 10 from HTK.out.trans (by rw[HZO.out,if_pos h251,hZA,tr.uz HXC.out,hnb];rfl));have HSE:=qe (rserial7_any x HD.out.1 (by have:=HD.out.2;omega) w10);have HSR:=qe (show ∀X,Below w10.heap.size w10 X->Calls Tryz.prog 57 #[qX y] X λe w'=>e= .returned (.int .i64 (tr.yD A))/\Below X.heap.size X w' from λX hX=>Uy y A hok X (hry.below (gm yt.out hX)));have HNW:=qe (show ∀X:World,Calls Tryz.prog 9 #[.int .i64 (up.QQ x.data),.int .i64 (tr.yD A)] X λe w'=>e= .returned (.bool nb)/\w'=X from λX=>by rw[hnb];exact rnewer_any _ _ X);obtain⟨-,-,r0,r1,r2,r3,r4⟩:=Je.out w10 (gJ _ _);clear h251 hZA hok hap hsA hry hnb;go_wp2_with fail;refine HSE.out.mono ?_;rintro e w11 ⟨rfl,ZQ⟩;have JU:=qe ZQ;clear ZQ r0 r1 r2 r3 r4;go_wp2_with fail;refine(HSR.out w11 JU.out).mono ?_;rintro e w12 ⟨rfl,hB12⟩;have ZZ:=qe (yt.out.trans ((gm JU.out hB12).mono yt.out.size));clear hB12;go_wp2_with fail;refine(HNW.out w12).mono ?_;rintro e w13 ⟨rfl,hE13⟩;obtain rfl:=hE13.symm
              cases nb
              ·have HE:=qe (show qU o0 (qX y) w (.returned (.tuple #[qX y,.int .i64 0])) w12 from by
                rw[HO0.out,HP.out];exact⟨ZZ.out,rfl⟩)
               go_wp2_with fail;go_ret2;exact HE.out
              ·have HP2:=qe (show tr.jf Z M0 xs= .err 10 from HP.out);have HE:=qe (show qU o0 (qX y) w (.returned (.tuple #[.pointer none,.int .i64 10])) w12 from by
                rw[HO0.out,HP2.out];exact⟨by decide,ZZ.out,rfl⟩)
               go_wp2_with fail;go_ret2;exact HE.out
           ·obtain⟨x2,t2,htl⟩:∃x2 t2,tl=x2 :: t2:=by
             match tl,htl0 with
             | y :: t,_=>exact⟨y,t,rfl⟩
             | [],h=>exact absurd rfl h
            have hm3:m=t2.length+2:=by have:=HM2.out;rw[htl]at this;simp only[Ha]at this;omega
            have e1:((m:Int) == 1)=false:=by rw[gG];omega
            have e3:1<m:=by omega
            have e4:(1:Int)<(m:Int):=by omega
            have HY:=qe (show ∀X,Below w10.heap.size w10 X->X.cell? ⟨rg,ro+5+1,none⟩=some (.int .i64 x2.typ) from λX hX=>by
             have h:=HRX.out X hX;rw[htl]at h;exact(qH h (j:=1) (by simp)).2.2.1)
            have HTL:=qe htl;have HM3:=qe hm3;obtain⟨b6,hb6⟩:=yM ((s && (x2.typ == 6)));have HB6:=qe hb6;clear hm3 htl htl0 hb6;go_upto_region 32 with fail
            go_cut [190] (λv wx=>v= .bool b6/\w10=wx)
            case first=>
             as_aux_lemma=>
              cases s
              ·have HF:=qe (show b6=false from HB6.out);go_wp2_with fail;go_meet;exact⟨by rw[HF.out],rfl⟩
              ·have HF:=qe (show b6=(x2.typ == 6) from HB6.out);have y1:=HY.out w10 (gJ _ _);obtain⟨c6,hc6⟩:=yM ((x2.typ == 6));have d6:(x2.typ == 6)=c6:=hc6.symm;rw[<- hc6]at HF;clear hc6;go_wp2_with fail;go_meet;exact⟨by rw[HF.out],rfl⟩
            obtain⟨rfl,hwE⟩:=hcut;subst hwE;have i1:(1:Int)<=(m:Int):=by omega
            have i2:1<=m:=by omega
            have i3:m<=lc:=HLC.out;have i4:1<=lc:=by omega
            have i5:¬(lc=1):=by omega
            have HRT:=qe (show ∀X,Below w10.heap.size w10 X->ql X (.slice (some ⟨rg,ro+5,none⟩) (m-1) (lc-1)) tl from λX hX=>Yn (HRX.out X hX));have HLT:=qe (show tl.length<=10000000 by have:=HRR.out;simp only[Ha]at this;omega);clear e1 e3 e4
            cases b6
            ·as_aux_lemma=>
              have HP:=qe (show o0=tr.Zt n0.name x tl from HO0.out.trans (HTK.out.trans (by
               rcases HZS.out with⟨h1,hne⟩|⟨h1,h251,A,y,hZA,-⟩
               ·rw[HZO.out,if_neg hne,tr.Yl HXC.out,HTL.out,if_neg (by simp)]
               ·have h6:¬(x2.typ=6):=λh=>by
                 have h2:=HB6.out;rw[h1,h]at h2
                 cases h2
                rw[HZO.out,if_pos h251,hZA,tr.uz HXC.out,HTL.out,if_neg (by simp)];exact if_neg h6)))
              obtain⟨ix,hix⟩:=yM (tr.xx tl x)
              have HIX:=qe (show ∀X,Below w10.heap.size w10 X->Calls Tryz.prog 59 #[.slice (some ⟨rg,ro+5,none⟩) (m-1) (lc-1),yf x] X λe w'=>e= .returned (.int .i64 ix)/\Below X.heap.size X w' from λX hX=>by
               rw[hix];exact KU tl (by have:=HLT.out;omega) x _ X (HRT.out X hX))
              have HIXE:=qe hix;clear hix;go_upto_region 34 with fail
              go_cut [16] (λv wx=>v= .int .i64 ix/\Below w10.heap.size w10 wx)
              case first=>
               obtain⟨-,g0,r0,r1,r2,r3,r4⟩:=Je.out w10 (gJ _ _)
               go_region_held3 (λX=>Below w10.heap.size w10 X/\X.cell? ⟨b8q,0,none⟩=some (.string n0.name)/\X.cell? ⟨rg,ro,none⟩=some (.string x.owner)/\X.cell? ⟨rg,ro+1,none⟩=some (.int .i64 x.typ)/\X.cell? ⟨rg,ro+2,none⟩=some (.int .i64 x.cls)/\X.cell? ⟨rg,ro+3,none⟩=some (.int .i64 x.ttl)/\X.cell? ⟨rg,ro+4,none⟩=some (.string x.data))
                (first | assumption | exact Je.out _ (gJ _ _).drew | (go_split_ands;exact Je.out _ (by assumption)))
                (first | (go_at_call 59;(with_reducible refine(HIX.out _ (by go_split_ands;assumption)).mono ?_);rintro e wX ⟨rfl,hbX⟩;go_split_ands;have uX:=Below.trans (B:=w10.heap.size) (a:=w10) (by assumption) (hbX.mono (Below.size (by assumption)))))
               all_goals (go_wp2_with fail;go_meet;exact⟨rfl,uX⟩)
              obtain⟨rfl,ZQ⟩:=hcut;obtain⟨w11,hw11⟩:=yM wc;subst hw11;have HBX:=qe ZQ;have JU:=qe (gm yt.out ZQ);clear ZQ i1 i2 i3 i4 i5;by_cases hx:x∈tl
              ·obtain⟨k2,hk2,hkx,hki,-⟩:=UU hx;obtain rfl:ix=(k2:Int):=HIXE.out.trans hki;have j0:¬((k2:Int)<0):=by omega
               have j1:IntKind.i64.wrap ((k2:Int)+2)=(k2:Int)+2:=Hg _ (by have:=HLT.out;omega);have j2:IntKind.i64.wrap ((k2:Int)+1)=(k2:Int)+1:=Hg _ (by have:=HLT.out;omega);have hmt:m=tl.length+1:=HM2.out;by_cases hlt2:k2+2<m
               ·have j3:(k2:Int)+2<(m:Int):=by omega
                have HP2:=qe (show o0= .err 11 from HP.out.trans (by unfold tr.Zt;rw[if_pos hx,hki,Int.toNat_natCast,if_pos (by omega)]));clear hx hk2 hkx hki hmt hlt2 j2;have HE:=qe (show qU o0 (.pointer zp) w (.returned (.tuple #[.pointer none,.int .i64 11])) w11 from by
                 rw[HP2.out];exact⟨by decide,JU.out,rfl⟩)
                go_wp2_with fail;go_ret2;exact HE.out
               ·have j3:¬((k2:Int)+2<(m:Int)):=by omega
                have HP2:=qe (show o0= .make n0.name (x :: tl.take k2) from HP.out.trans (by unfold tr.Zt;rw[if_pos hx,hki,Int.toNat_natCast,if_neg (by omega)]));obtain⟨k3,hk3⟩:=yM (k2+1);have j4:(k2:Int)+1=(k3:Int):=by omega
                rw[j4]at j2;have j5:(0:Int)<=(k3:Int):=by omega
                have j6:(k3:Int)<=(lc:Int):=by have:=HLC.out;omega
                have j7:k3<=lc:=by have:=HLC.out;omega
                have HFN:=qe (show ∀X,Below w11.heap.size w11 X->Calls Tryz.prog 60 #[.string n0.name,.slice (some ⟨rg,ro,none⟩) k3 lc] X λe w'=>Below X.heap.size X w'/\∃r1 r2,e= .returned (.tuple #[r1,r2])/\qU o0 (.pointer zp) w (.returned (.tuple #[r1,r2])) w' from λX hX=>by
                 have h:=vM (HRX.out X (gm HBX.out hX)) (k:=k3) (by simp;omega);rw[hk3,List.take_succ_cons]at h;rw[hk3]
                 refine(U2 n0.name (HSQ.out n0 (by simp)) (x :: tl.take k2) (λr hr=>(HAL.out r (by
                  rcases List.mem_cons.1 hr with h | h
                  ·rw[h];exact List.mem_cons_self ..
                  ·exact List.mem_cons_of_mem _ (List.mem_of_mem_take h))).2) _ (Yx h (by simp)) X h).mono λe w' hp=>?_
                 obtain⟨h1,r1,r2,rfl,h2⟩:=hp.two;refine⟨h1,r1,r2,rfl,?_⟩;rw[HP2.out];exact jZ.from (gm JU.out hX) h2)
                have HAL3:=qe (show ∀X,Below w11.heap.size w11 X->Below w11.heap.size w11 X/\X.cell? ⟨b8q,0,none⟩=some (.string n0.name) from λX hX=>⟨hX,(Je.out X (gm HBX.out hX)).2.1⟩);clear hx hk2 hkx hki hmt hlt2 hk3;go_upto_region 39 with fail;obtain⟨-,g0⟩:=HAL3.out w11 (gJ _ _)
                go_region_held3 (λX=>Below w11.heap.size w11 X/\X.cell? ⟨b8q,0,none⟩=some (.string n0.name))
                 (first | assumption | exact HAL3.out _ (gJ _ _).drew | (go_split_ands;exact HAL3.out _ (by assumption)))
                 (first | (go_at_call 60;(with_reducible refine(HFN.out _ (by go_split_ands;assumption)).mono ?_);rintro e wX ⟨hbX,q1,q2,rfl,hpp⟩;go_split_ands;have uX:=Below.trans (B:=w11.heap.size) (a:=w11) (by assumption) (hbX.mono (Below.size (by assumption)))))
                all_goals (go_wp2_with fail;go_ret2;exact hpp)
              ·have hni:tr.xx tl x= -1:=by unfold tr.xx;exact df.Qp λj hj=>gp λh=>hx (h ▸ Ht hj)
               obtain rfl:ix= -1:=HIXE.out.trans hni;have HP2:=qe (show o0= .err 10 from HP.out.trans (by unfold tr.Zt;rw[if_neg hx]));clear hx hni;have HE:=qe (show qU o0 (.pointer zp) w (.returned (.tuple #[.pointer none,.int .i64 10])) w11 from by
                rw[HP2.out];exact⟨by decide,JU.out,rfl⟩)
               go_wp2_with fail;go_ret2;exact HE.out
            ·obtain⟨rfl,ht6⟩:s=true/\x2.typ=6:=by
              have h:=HB6.out.symm;rw[gX]at h;exact⟨h.1,beq_iff_eq.1 h.2⟩
             rcases HZS.out with⟨h,-⟩|⟨-,h251,A,y,hZA,rfl,hok,hap,hsA,hry⟩
             ·cases h
             ·have HP:=qe (show o0=tr.jw A x tl from HO0.out.trans (HTK.out.trans (by rw[HZO.out,if_pos h251,hZA,tr.uz HXC.out,HTL.out,if_neg (by simp)];exact if_pos ht6)));have HST7:=qe (show ∀X,Below w10.heap.size w10 X->Calls Tryz.prog 58 #[qX y,yf x,.slice (some ⟨rg,ro+5,none⟩) (m-1) (lc-1)] X λe w'=>Below X.heap.size X w'/\∃r1 r2,e= .returned (.tuple #[r1,r2])/\qU o0 (qX y) w (.returned (.tuple #[r1,r2])) w' from λX hX=>
               (rstepped_any y A hok hap x tl HLT.out (λ_=>by rw[HTL.out];exact ht6) (λr hr=>(HAL.out r (List.mem_cons_of_mem _ hr)).2) hsA _ X (hry.below (gm yt.out hX)) (HRT.out X hX)).mono λe w' h=>by
                obtain⟨h1,r1,r2,rfl,h2⟩:=h.two;refine⟨h1,r1,r2,rfl,?_⟩;rw[HP.out];exact qU.from (gm yt.out hX) h2)
              clear h251 hZA hok hap hsA hry ht6
              as_aux_lemma=>
               obtain⟨-,g0,r0,r1,r2,r3,r4⟩:=Je.out w10 (gJ _ _);go_upto_region 33 with fail
               go_region_held3 (λX=>Below w10.heap.size w10 X/\X.cell? ⟨b8q,0,none⟩=some (.string n0.name)/\X.cell? ⟨rg,ro,none⟩=some (.string x.owner)/\X.cell? ⟨rg,ro+1,none⟩=some (.int .i64 x.typ)/\X.cell? ⟨rg,ro+2,none⟩=some (.int .i64 x.cls)/\X.cell? ⟨rg,ro+3,none⟩=some (.int .i64 x.ttl)/\X.cell? ⟨rg,ro+4,none⟩=some (.string x.data))
                (first | assumption | exact Je.out _ (gJ _ _).drew | (go_split_ands;exact Je.out _ (by assumption)))
                (first | (go_at_call 58;(with_reducible refine(HST7.out _ (by go_split_ands;assumption)).mono ?_);rintro e wX ⟨hbX,q1,q2,rfl,hpp⟩;go_split_ands;have uX:=Below.trans (B:=w10.heap.size) (a:=w10) (by assumption) (hbX.mono (Below.size (by assumption)))))
               all_goals (go_wp2_with fail;go_ret2;exact hpp)
          ·have HT5:=qe (show tr.jf Z M0 xs= .err 15 from HTK.out.trans (tr.row_soa (of_decide_eq_true HGB.out.symm)));have HE:=qe (show qU o0 (.pointer zp) w (.returned (.tuple #[.pointer none,.int .i64 15])) w10 from by
            rw[HO0.out,HT5.out];exact⟨by decide,yt.out,rfl⟩)
           go_wp2_with fail;go_ret2;exact HE.out
end Go.Proofs.YtpcmilhjpmlbpaaGreatDoor
