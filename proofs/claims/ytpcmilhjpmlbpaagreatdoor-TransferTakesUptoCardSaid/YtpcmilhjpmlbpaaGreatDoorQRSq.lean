import Derived.Test.YtpcmilhjpmlbpaaGreatDoorQRSp
import Derived.Deep.RegionHeld3
import Derived.Deep.CutBlock
set_option maxRecDepth 100000
set_option maxHeartbeats 32000000
namespace Go.Proofs.YtpcmilhjpmlbpaaGreatDoor
open Go.RowKit Go.Shelf nm od
attribute [local go_sem] Jm
theorem rstepped_any (yz:Nat)(Z:tr.Zn)(hv:tr.Ok Z)(hap:Z.ap.size<=1099511627776)(x:Rec)(tl:List Rec)(hl:tl.length<=10000000)(h6:tl≠[]->(tl.headD tr.Js).typ=6)(hsz:∀r∈tl,r.owner.size<=1099511627776)(hsZ:∀r∈Z.l,r.owner.size<=1099511627776)(v:Value)(wS:World)(hz:uQ wS yz Z.ap Z.l)(hr:ql wS v tl):
 Calls Tryz.prog 58 #[qX yz,yf x,v] wS λe w'=>qU (tr.jw Z x tl) (qX yz) wS e w':=by
 obtain⟨w1,hw1⟩:=yM (wS.alloc (.cells (recC x).toArray 80));obtain⟨hB1,hs1,-⟩:=zf wS w1 x hw1;have hx1:=jF.new x hw1;obtain⟨bx,hbx⟩:=yM wS.heap.size;rw[<- hbx]at hx1;obtain⟨sx,hsx⟩:=yM (tr.qZ Z);have HSO:=qe (show Calls Tryz.prog 50 #[qX yz] w1 λe w'=>e= .returned (yf sx)/\Below w1.heap.size w1 w' from by rw[hsx];exact rsoa_any yz Z hv hap w1 (hz.below hB1));have HRE:=qe (show ∀X,Below wS.heap.size wS X->Calls Tryz.prog 100 #[qX yz] X λe w'=>jk (tr.q9 Z.l) X e w' from λX hX=>rrest_any yz Z hv.small X (hz.below hX))
 have HTOP:=qe (show ∀X,Below wS.heap.size wS X->X.cell? ⟨yz,0,none⟩=some (.string Z.ap) from λX hX=>by
  obtain⟨ga,ca,h4,-⟩:=hz.below hX;rw[qg h4];rfl)
 have HFI:=qe (show ∀(l:List Rec),0<l.length->(∀r∈l,r.owner.size<=1099511627776)->∀(X:World) (u:Value),ql X u l->Calls Tryz.prog 60 #[.string Z.ap,u] X λe w'=>jZ Z.ap l X e w' from λl h0 h1 X u hu=>U2 Z.ap hap l h1 u (Yx hu h0) X hu);have HR:=qe hr;have HW1:=qe hw1;have HBX:=qe hbx;have HX1:=qe hx1;have HB1:=qe hB1;have HV:=qe hv;have HL:=qe hl;have H6:=qe h6;have HSZ:=qe hsz;have HSX:=qe hsx;have HSZZ:=qe hsZ;obtain⟨va,vc,rfl,-⟩:=id hr;clear hz hr hw1 hbx hx1 hB1 hv hl h6 hsz hsx hs1 hap hsZ
 go_enter Tryz.func58,Tryz.ntmps58
 go_upto_region 1 with fail;rw[<- HW1.out,<- HBX.out];go_wp2_with fail;refine HSO.out.mono ?_;rintro e w ⟨rfl,hB2⟩;have HBS:=qe (gm HB1.out hB2);have HX2:=qe (HX1.out.below hB2);obtain⟨w3,hw3⟩:=yM (w.alloc (.cells (recC sx).toArray 80));obtain⟨hB3,hs3,-⟩:=zf w w3 sx hw3;have hn3:=jF.new sx hw3;obtain⟨bn,hbn⟩:=yM w.heap.size;rw[<- hbn]at hn3;have HB3:=qe hB3;have HW3:=qe hw3;have HBN:=qe hbn;have HN3:=qe hn3;have HB6:=qe (show w.heap.size<=bn from by omega);clear hB2 hw3 hB3 hs3 hbn hn3 HSO HX1;go_upto_region 2 with fail;rw[<- HW3.out,<- HBN.out];go_wp2_with fail;refine(HRE.out w3 (gm HBS.out HB3.out)).mono ?_;rintro e w4 ⟨hv0,rfl,hB4,hO4⟩;have HSI:=qe (show ZW w bn Z x tl w4 sx false hv0 (tr.q9 Z.l) (.slice va tl.length vc) tl from⟨HB3.out.trans (hB4.mono HB3.out.size),qK hO4 HB3.out.size,λb hb=>by have:=(hO4.lt b hb).1;have:=zm HN3.out;omega,HN3.out.below hB4,by have:=tr.uA HV.out;omega,λr hr=>HSZZ.out r (tr.kS.1 hr).1,HSZZ.out _ (by rw[HSX.out];exact(tr.yx HV.out).2.1),HSZ.out,HR.out.below HBS.out,by rw[HSX.out]⟩);clear hB4 hO4;go_wp2_with fail
 go_loopw [2,9] (λlv hv wr=>∃(now:Rec) (L t:List Rec) (lx hx:Value),lx=lv/\hx=hv/\Hid (t≠[]->(t.headD tr.Js).typ=6)/\Hid (ZW w bn Z x tl wr now false hx L lx t)) (λlv _ _=>UO lv)
 case atStart=>exact⟨sx,_,tl,_,_,rfl,rfl,H6,HSI⟩
 case round=>
  obtain⟨now,L,t,lv,hv,rfl,rfl,H6T,HST⟩:=hrel;obtain⟨w4,hw4⟩:=yM wr;subst hw4;obtain⟨la,lc,rfl,hlc,-⟩:=id HST.out.rows;obtain⟨ha,hc,rfl,hhc⟩:=qj HST.out.own;obtain⟨m,hm⟩:=yM t.length;rw[<- hm]at hlc HST ⊢
  cases t with
  | nil=>
    have e0:¬((0:Int)<(m:Int)):=by rw[hm];simp
    have HE:=qe (show ∀X,Below w4.heap.size w4 X->qU (tr.jw Z x tl) (qX yz) wS (.returned (.tuple #[.pointer none,.int .i64 10])) X from λX hX=>by
     have h:=HST.out.run;rw[tr.XP]at h;rw[tr.uL h.symm (by decide)];exact⟨by decide,HBS.out.trans ((HST.out.below.trans (hX.mono HST.out.below.size)).mono HBS.out.size),rfl⟩)
    clear hm hlc hhc;go_wp2_with fail;go_ret2;exact HE.out _ (gJ _ _)
  | cons y t=>
    have hm1:m=t.length+1:=hm;have e0:(0:Int)<(m:Int):=by omega
    have e1:0<m:=by omega
    have hy6:y.typ=6:=H6T.out (by simp);obtain⟨lb,lof,rfl⟩:=jm HST.out.rows (by simp);have HM:=qe hm1;have HLC:=qe hlc;have HY6:=qe hy6;have HRW:=qe HST.out.rows;clear hm hm1 hlc hhc hy6 H6T;obtain⟨-,a0,a1,a2,a3,a4⟩:=qH (HRW.out.below HST.out.below) (j:=0) (by simp);simp only[Ho,Nat.zero_mul,Nat.add_zero]at a0 a1 a2 a3 a4;obtain⟨n0,n1,n2,n3,n4⟩:=jF.cells HST.out.box;obtain⟨x0,x1,x2,x3,x4⟩:=jF.cells (HX2.out.below HST.out.below);obtain⟨fb,hfb⟩:=yM (decide (y=now/\m=1/\y=x));have HFB:=qe hfb;clear hfb;go_upto_region 4 with fail
    go_cut [34] (λs wx=>s= .bool fb/\Below w4.heap.size w4 wx)
    case first=>
     by_cases hyn:y=now
     ·subst hyn;by_cases hm9:m=1
      ·have ekm:((m:Int) == 1)=true:=by rw[Hz];omega
       by_cases hyx:y=x
       ·subst hyx;have HF:=qe (show fb=true by rw[HFB.out];simp[hm9]);clear hm9
        go_quiet (fail)
        go_wp2_with fail;go_meet;exact⟨by rw[HF.out],qL (gJ _ _) _⟩
       ·have HF:=qe (show fb=false by rw[HFB.out];simp[hyx]);clear hm9
        go_quiet (fail)
        go_wp2_with fail;go_meet;exact⟨by rw[HF.out],qL (gJ _ _) _⟩
      ·have ekm:((m:Int) == 1)=false:=by rw[gG];omega
       have HF:=qe (show fb=false by rw[HFB.out];simp[hm9]);clear hm9
       go_quiet (fail)
       go_wp2_with fail;go_meet;exact⟨by rw[HF.out],qL (gJ _ _) _⟩
     ·have HF:=qe (show fb=false by rw[HFB.out];simp[hyn])
      go_quiet (fail)
      go_wp2_with fail;go_meet;exact⟨by rw[HF.out],qL (gJ _ _) _⟩
    obtain⟨rfl,hB5⟩:=hcut;obtain⟨w5,hw5⟩:=yM wc;subst hw5;have HS5:=qe (HST.out.on hB5);clear hB5 HST;clear a0 a1 a2 a3 a4;clear n0 n1 n2 n3 n4 x0 x1 x2 x3 x4;obtain⟨-,a0,a1,a2,a3,a4⟩:=qH (HRW.out.below HS5.out.below) (j:=0) (by simp);simp only[Ho,Nat.zero_mul,Nat.add_zero]at a0 a1 a2 a3 a4;obtain⟨n0,n1,n2,n3,n4⟩:=jF.cells HS5.out.box;obtain⟨x0,x1,x2,x3,x4⟩:=jF.cells (HX2.out.below HS5.out.below)
    cases fb
    ·obtain⟨nb,hnb⟩:=yM (decide (y≠now));have HNB:=qe hnb;clear hnb;go_upto_region 6 with fail
     go_cut [50] (λs wx=>s= .bool nb/\Below w5.heap.size w5 wx)
     case first=>
      by_cases hyn:y=now
      ·subst hyn;have HF:=qe (show nb=false by rw[HNB.out];simp)
       go_quiet (fail)
       go_wp2_with fail;go_meet;exact⟨by rw[HF.out],qL (gJ _ _) _⟩
      ·have HF:=qe (show nb=true by rw[HNB.out];simp[hyn])
       go_quiet (fail)
       go_wp2_with fail;go_meet;exact⟨by rw[HF.out],qL (gJ _ _) _⟩
     obtain⟨rfl,hB6⟩:=hcut;obtain⟨w6,hw6⟩:=yM wc;subst hw6;have HS6:=qe (HS5.out.on hB6);clear hB6 HS5;clear a0 a1 a2 a3 a4;clear n0 n1 n2 n3 n4 x0 x1 x2 x3 x4
     cases nb
     ·have hyn:y=now:=by
       have h:=of_decide_eq_false HNB.out.symm;exact Classical.byContradiction h
      subst hyn;have hrun:=HS6.out.run
      rw[tr.J4 HY6.out rfl (λh=>by
       have h2:=of_decide_eq_false HFB.out.symm;exact h2 ⟨rfl,by rw[HM.out,h.1];rfl,h.2⟩)]at hrun
      have ZY:=qe hrun;clear hrun HFB HNB;go_upto_region 8 with fail
      go_cut [2] (λlw wx=>∃lx,lx=lw/\w6=wx/\ql w lx t)
      case first=>
       by_cases hc1:lc=1
       ·subst hc1;have hmm:m=1:=by have:=HLC.out;omega
        subst hmm;have ht0:t= []:=Hm (by have:=HM.out;omega);have HT0:=qe ht0;have i1:(1:Int)<=((1:Nat):Int):=by omega
        clear ht0;go_wp2_with fail;go_meet;refine⟨_,rfl,rfl,?_⟩;rw[HT0.out]
        first | exact vz _ _ _ | (simp;exact vz _ _ _)
       ·have i1:(1:Int)<=(m:Int):=by have:=HM.out;omega
        have i2:1<=m:=by have:=HM.out;omega
        have i3:m<=lc:=HLC.out;have i4:1<=lc:=by omega
        have HRT:=qe (Yn HRW.out);go_wp2_with fail;go_meet;exact⟨_,rfl,rfl,HRT.out⟩
      obtain⟨lw,rfl,hwE,hrt⟩:=hcut;subst hwE;have HRT:=qe hrt;clear hrt;obtain⟨wa,wc,rfl,hwc,-⟩:=id HRT.out;have HS7:=qe (HS6.out.turn HRT.out ZY.out);obtain⟨K,hK⟩:=yM t.length;have HK:=qe hK;rw[<- hK]at HS7 ⊢;clear hK hwc HS6 ZY HRW;go_wp2_with fail
      go_loopw [2,9] (λlv hv wr=>∃(L t:List Rec) (lx hx:Value),lx=lv/\hx=hv/\t.length<=K/\Hid (ZW w bn Z x tl wr y true hx L lx t)) (λlv _ _=>UO lv)
      case atStart=>exact⟨_,_,_,_,rfl,rfl,Nat.le_of_eq HK.out.symm,HS7⟩
      case round=>
       obtain⟨L2,t2,lv,hv,rfl,rfl,hK2,HST⟩:=hrel;obtain⟨w7,hw7⟩:=yM wr;subst hw7;obtain⟨l2a,l2c,rfl,hl2c,-⟩:=id HST.out.rows;obtain⟨h2a,h2c,rfl,hh2c⟩:=qj HST.out.own;obtain⟨m2,hm⟩:=yM t2.length;have HK2:=qe hK2;rw[<- hm]at hl2c HST ⊢
       cases t2 with
       | nil=>
         have e0:¬((0:Int)<(m2:Int)):=by rw[hm];simp
         have e2:((m2:Int) == 0)=true:=by rw[hm];rfl
         have HE:=qe (show ∀X,Below w7.heap.size w7 X->qU (tr.jw Z x tl) (qX yz) wS (.returned (.tuple #[.pointer none,.int .i64 10])) X from λX hX=>by
          have h:=HST.out.run;rw[tr.XP]at h;rw[tr.uL h.symm (by decide)];exact⟨by decide,HBS.out.trans ((HST.out.below.trans (hX.mono HST.out.below.size)).mono HBS.out.size),rfl⟩)
         clear hm hl2c hh2c hK2;go_wp2_with fail;go_ret2;exact HE.out _ (gJ _ _)
       | cons r t2=>
         have hm1:m2=t2.length+1:=hm;have e0:(0:Int)<(m2:Int):=by omega
         have e1:0<m2:=by omega
         have e2:((m2:Int) == 0)=false:=by rw[gG];omega
         obtain⟨lb,lof,rfl⟩:=jm HST.out.rows (by simp);have HM2:=qe hm1;have HLC2:=qe hl2c;have HHC2:=qe hh2c;have HRW:=qe HST.out.rows;clear hm hm1 hl2c hh2c hK2;obtain⟨-,a0,a1,a2,a3,a4⟩:=qH (HRW.out.below HST.out.below) (j:=0) (by simp);simp only[Ho,Nat.zero_mul,Nat.add_zero]at a0 a1 a2 a3 a4;by_cases h6r:r.typ=6
         ·have d6:(r.typ != 6)=false:=by rw[Hy];exact h6r
          have H6R:=qe h6r;clear h6r;have hrun:=HST.out.run;rw[tr.X8 H6R.out]at hrun;have ZY:=qe hrun;clear hrun;obtain⟨n0,n1,n2,n3,n4⟩:=jF.cells HST.out.box;have f0:=qB HST.out.box 0;have f1:=qB HST.out.box 1;have f2:=qB HST.out.box 2;have f3:=qB HST.out.box 3;have f4:=qB HST.out.box 4;obtain⟨w8,hw8⟩:=yM (((((w7.setCell ⟨bn,0,none⟩ (.string r.owner)).setCell ⟨bn,1,none⟩ (.int .i64 r.typ)).setCell ⟨bn,2,none⟩ (.int .i64 r.cls)).setCell ⟨bn,3,none⟩ (.int .i64 r.ttl)).setCell ⟨bn,4,none⟩ (.string r.data));have HW8:=qe hw8;clear hw8;go_upto_region 18 with fail;rw[<- HW8.out];clear a0 a1 a2 a3 a4;clear n0 n1 n2 n3 n4 f0 f1 f2 f3 f4;have HHL:=qe (show m2<=l2c from HLC2.out)
          go_cut [2] (λlw wx=>∃lx,lx=lw/\w8=wx/\ql w lx t2)
          case first=>
           by_cases hc1:l2c=1
           ·subst hc1;have hmm:m2=1:=by have:=HHL.out;omega
            subst hmm;have ht0:t2= []:=Hm (by have:=HM2.out;omega);have HT0:=qe ht0;have i1:(1:Int)<=((1:Nat):Int):=by omega
            clear ht0;go_wp2_with fail;go_meet;refine⟨_,rfl,rfl,?_⟩;rw[HT0.out]
            first | exact vz _ _ _ | (simp;exact vz _ _ _)
           ·have i1:(1:Int)<=(m2:Int):=by have:=HM2.out;omega
            have i2:1<=m2:=by have:=HM2.out;omega
            have i3:m2<=l2c:=HHL.out;have i4:1<=l2c:=by omega
            have HRTX:=qe (Yn HRW.out);go_wp2_with fail;go_meet;exact⟨_,rfl,rfl,HRTX.out⟩
          obtain⟨lw,rfl,hwE,hrt⟩:=hcut;subst hwE;have HRT2:=qe hrt;clear hrt;obtain⟨wa2,wc2,rfl,hwc,-⟩:=id HRT2.out;have HS8:=qe (show ZW w bn Z x tl w8 r false (.slice h2a L2.length h2c) L2 (.slice wa2 t2.length wc2) t2 by rw[HW8.out];exact HST.out.next HB6.out HRT2.out ZY.out);obtain⟨K2,hKK⟩:=yM t2.length;have HKK:=qe hKK;rw[<- hKK]at HS8 ⊢;clear hKK hwc HST ZY HRW;have e0:=True.intro;have e1:=True.intro;have e2:=True.intro;clear e0 e1 e2;go_wp2_with fail
          go_loopw [2,9] (λlv hv wr=>∃(L t:List Rec) (lx hx:Value),lx=lv/\hx=hv/\t.length<=K2/\Hid (ZW w bn Z x tl wr r false hx L lx t)) (λlv _ _=>UO lv)
          case atStart=>exact⟨_,_,_,_,rfl,rfl,Nat.le_of_eq HKK.out.symm,HS8⟩
          case round=>
           obtain⟨L3,t3,lv,hv,rfl,rfl,hK3,HST⟩:=hrel;obtain⟨w9,hw9⟩:=yM wr;subst hw9;obtain⟨l3a,l3c,rfl,hl3c,-⟩:=id HST.out.rows;obtain⟨h3a,h3c,rfl,hh3c⟩:=qj HST.out.own;obtain⟨m3,hm⟩:=yM t3.length;have HK5:=qe (show m3<=K2 by omega);have HK3:=qe (show m3<m by have h1:=HK2.out;rw[Ha]at h1;have h2:=HM2.out;have h3:=HKK.out;have h4:=HK.out;have h5:=HM.out;rw[<- hm]at hK3;omega);rw[<- hm]at hl3c HST ⊢
           cases t3 with
           | nil=>
             have e0:¬((0:Int)<(m3:Int)):=by rw[hm];simp
             have H60:=qe (show([]:List Rec)≠[]->(([]:List Rec).headD tr.Js).typ=6 from λh=>absurd rfl h);clear hm hl3c hh3c hK3;go_wp2_with fail
             go_roundw
             case rel=>exact⟨r,L3,[],_,_,rfl,rfl,H60,HST⟩
             case measure=>have:=HK3.out;simp[UO];omega
           | cons z t3=>
             have hm1:m3=t3.length+1:=hm;have e0:(0:Int)<(m3:Int):=by omega
             have e1:0<m3:=by omega
             obtain⟨lb,lof,rfl⟩:=jm HST.out.rows (by simp);have HM3:=qe hm1;have HLC3:=qe (show m3<=l3c from hl3c);have HHC3:=qe hh3c;have HRW:=qe HST.out.rows;clear hm hm1 hl3c hh3c hK3;obtain⟨-,a0,a1,a2,a3,a4⟩:=qH (HRW.out.below HST.out.below) (j:=0) (by simp);simp only[Ho,Nat.zero_mul,Nat.add_zero]at a0 a1 a2 a3 a4;by_cases h6z:z.typ=6
             ·have d6:(z.typ != 6)=false:=by rw[Hy];exact h6z
              have H60:=qe (show(z :: t3)≠[]->((z :: t3).headD tr.Js).typ=6 from λ_=>h6z);clear h6z;go_wp2_with fail;clear a0 a1 a2 a3 a4
              go_roundw
              case rel=>exact⟨r,L3,z :: t3,_,_,rfl,rfl,H60,HST⟩
              case measure=>have:=HK3.out;simp[UO];omega
             ·have d6:(z.typ != 6)=true:=by rw[bne_iff_ne];exact h6z
              have H6Z:=qe h6z;have HIX:=qe (KU L3 (by have:=HST.out.len;have:=HL.out;omega) z _ w9 (qF HST.out.own));clear h6z;go_wp2_with fail;refine HIX.out.mono ?_;rintro e w10 ⟨rfl,vZ⟩;have xI:=qe (HST.out.on vZ);clear vZ HIX HST;clear a0 a1 a2 a3 a4;by_cases hzl:z∈L3
              ·obtain⟨j,hj,hjy,hji,-⟩:=UU hzl
               have HE:=qe (show ∀X,Below w10.heap.size w10 X->qU (tr.jw Z x tl) (qX yz) wS (.returned (.tuple #[.pointer none,.int .i64 19])) X from λX hX=>by
                have h:=xI.out.run;rw[(tr.run_twice H6Z.out hzl)]at h;rw[tr.uL h.symm (by decide)];exact⟨by decide,HBS.out.trans ((xI.out.below.trans (hX.mono xI.out.below.size)).mono HBS.out.size),rfl⟩)
               rw[hji];have i0:(0:Int)<=(j:Int):=by omega
               clear hj hjy hji hzl;go_wp2_with fail;go_ret2;exact HE.out _ (gJ _ _)
              ·have hni:tr.xx L3 z= -1:=by unfold tr.xx;exact df.Qp λj hj=>gp λh=>hzl (h ▸ Ht hj)
               rw[hni];have hrun:=xI.out.run;rw[tr.run_add H6Z.out hzl]at hrun;have ZY:=qe hrun;have HHO:=qe (show ∀X,Below w10.heap.size w10 X->ql X (.slice h3a L3.length h3c) L3 from λX hX=>(qF xI.out.own).below hX);have HLL:=qe (show 0+L3.length<=1000000000 by have:=xI.out.len;have:=HL.out;omega);have HL1:=qe (show 0+L3.length+([z]:List Rec).length<=1000000000 by have:=xI.out.len;have:=HL.out;simp only[gT];omega)
               have zk:=qe (show ∀X,Below w10.heap.size w10 X->Below w10.heap.size w10 X/\X.cell? ⟨lb,lof,none⟩=some (.string z.owner)/\X.cell? ⟨lb,lof+1,none⟩=some (.int .i64 z.typ)/\X.cell? ⟨lb,lof+2,none⟩=some (.int .i64 z.cls)/\X.cell? ⟨lb,lof+3,none⟩=some (.int .i64 z.ttl)/\X.cell? ⟨lb,lof+4,none⟩=some (.string z.data) from λX hX=>by
                obtain⟨-,a0,a1,a2,a3,a4⟩:=qH (HRW.out.below (xI.out.below.trans (hX.mono xI.out.below.size))) (j:=0) (by simp);simp only[Ho,Nat.zero_mul,Nat.add_zero]at a0 a1 a2 a3 a4;exact⟨hX,a0,a1,a2,a3,a4⟩)
               clear hrun hni hzl;go_upto_region 22 with fail
               go_cut [9] (λhx wx=>∃hy,hy=hx/\wx.ownsRow w10.heap.size 80 5 hy (L3 ++ [z]).length (qw (L3 ++ [z]))/\Below w10.heap.size w10 wx)
               case first=>
                obtain⟨-,a0,a1,a2,a3,a4⟩:=zk.out w10 (gJ _ _)
                go_region_held3 (λX=>Below w10.heap.size w10 X/\X.cell? ⟨lb,lof,none⟩=some (.string z.owner)/\X.cell? ⟨lb,lof+1,none⟩=some (.int .i64 z.typ)/\X.cell? ⟨lb,lof+2,none⟩=some (.int .i64 z.cls)/\X.cell? ⟨lb,lof+3,none⟩=some (.int .i64 z.ttl)/\X.cell? ⟨lb,lof+4,none⟩=some (.string z.data))
                 (first | assumption | exact zk.out _ (gJ _ _).drew | exact zk.out _ hbQ | exact zk.out _ hbP | exact zk.out _ ((gJ w10.heap.size w10).drew.alloc (gI _) _) | exact zk.out _ (hbP.alloc hbP.size _) | (go_split_ands;exact zk.out _ (by assumption)))
                 (first
                  | (refine yN rfl _ _ rfl w10.heap.size (.slice none 0 0) 0 [] rfl (gZ _ _ _ _) _ L3 (HHO.out _ (by go_split_ands;assumption)) rfl HLL.out (by go_split_ands;exact Below.size (by assumption)) ?_;intro vP wP hoP hgP hnP;go_split_ands;have hbP:=Below.grown (B:=w10.heap.size) (a:=w10) (by assumption) hgP (Below.size (by assumption)) (λ_ h=>by cases h);have hbX:=Below.grown (gJ _ _) hgP (gI _) (λ_ h=>by cases h))
                  | (refine yN rfl _ _ rfl w10.heap.size vP (0+L3.length) ([] ++ qw L3) rfl (by first | exact hoP | exact ownsRow_below hoP ((gJ _ _).alloc (gI _) _)) _ [z] (by first | exact qF (kL (w:=wP) (base:=0) z rfl (gU _)) | exact(qF (kL (w:=w10.drew) (base:=0) z rfl (gU _))).below hbX) rfl HL1.out (by go_split_ands;exact Below.size (by assumption)) ?_;intro vQ wQ hoQ hgQ hnQ;go_split_ands;have hbQ:=Below.grown (B:=w10.heap.size) (a:=w10) (by assumption) hgQ (Below.size (by assumption)) (λq hq=>(hoP.lt q hq).1)))
                all_goals
                 go_wp2_with fail;go_meet;exact⟨_,rfl,jX (Nat.zero_add _) rfl hoQ,hbQ⟩
               obtain⟨hy,rfl,hoY,hbY⟩:=hcut;obtain⟨w11,hw11⟩:=yM wc;subst hw11;have HS11:=qe (show ∀lx,ql w lx t3->ZW w bn Z x tl w11 r false hy (L3 ++ [z]) lx t3 from λlx hlx=>
                xI.out.held hbY (λb hb=>(hoY.lt b hb).1) (qK hoY xI.out.below.size) (by simp) (λq hq=>by
                 rcases List.mem_append.1 hq with h | h
                 ·exact xI.out.wf q h
                 ·rw[List.mem_singleton.1 h];exact xI.out.twf z (List.mem_cons_self ..)) hlx ZY.out)
               clear hoY hbY xI;have HK4:=qe (show t3.length<=K2 by have:=HM3.out;have:=HK5.out;omega);by_cases hc1:l3c=1
               ·subst hc1;have hmm:m3=1:=by have:=HLC3.out;have:=HM3.out;omega
                subst hmm;have ht0:t3= []:=Hm (by have:=HM3.out;omega);have HT0:=qe ht0;have i1:(1:Int)<=((1:Nat):Int):=by omega
                have HSE:=qe (show ∀a c,ZW w bn Z x tl w11 _ _ _ _ (.slice a 0 c) t3 from λa c=>HS11.out _ (by rw[HT0.out];exact vz w a c));clear ht0;go_wp2_with fail
                go_roundw
                case rel=>exact⟨_,_,_,_,rfl,rfl,HK4.out,qe (HSE.out _ _)⟩
                case measure=>simp[UO]
               ·have i1:(1:Int)<=(m3:Int):=by have:=HM3.out;omega
                have i2:1<=m3:=by have:=HM3.out;omega
                have i3:m3<=l3c:=HLC3.out;have i4:1<=l3c:=by omega
                have HSE:=qe (HS11.out _ (Yn HRW.out));go_wp2_with fail
                go_roundw
                case rel=>exact⟨_,_,_,_,rfl,rfl,HK4.out,HSE⟩
                case measure=>simp[UO];omega
         ·have d6:(r.typ != 6)=true:=by rw[bne_iff_ne];exact h6r
          have H6R:=qe h6r;have HIX:=qe (KU L2 (by have:=HST.out.len;have:=HL.out;omega) r _ w7 (qF HST.out.own));clear h6r;go_wp2_with fail;refine HIX.out.mono ?_;rintro e w10 ⟨rfl,vZ⟩;have xI:=qe (HST.out.on vZ);clear vZ HIX HST;clear a0 a1 a2 a3 a4;by_cases hrl:r∈L2
          ·obtain⟨j,hj,hjr,hji,hje⟩:=UU hrl;rw[hji];have hje2:L2.erase r=L2.take j ++ L2.drop (j+1):=hje;have hrun:=xI.out.run;rw[tr.run_del H6R.out hrl,hje2]at hrun;have ZY:=qe hrun;obtain⟨j1,hj1⟩:=yM (j+1);obtain⟨nL,hnL⟩:=yM L2.length;obtain⟨hgb,hgo,rfl⟩:=jm (qF xI.out.own) (by omega);have hro:=qF xI.out.own;have HHT:=qe (show ∀X,Below w10.heap.size w10 X->ql X (.slice (some ⟨hgb,hgo,none⟩) j h2c) (L2.take j) from λX hX=>(vM hro (by omega)).below hX);have HHD:=qe (show ∀X,Below w10.heap.size w10 X->ql X (.slice (some ⟨hgb,hgo+j1*5,none⟩) (nL-j1) (h2c-j1)) (L2.drop (j+1)) from λX hX=>by rw[hj1,hnL];exact(ZF hro (by omega)).below hX);have ej:IntKind.i64.wrap ((j:Int)+1)=(j1:Int):=by rw[hj1];exact Hg _ (by have:=xI.out.len;have:=HL.out;omega)
           have ej2:¬((j:Int)<0):=by omega
           have i1:(0:Int)<=(j:Int):=by omega
           have i2:(j:Int)<=(h2c:Int):=by have:=HHC2.out;omega
           have i3:j<=h2c:=by have:=HHC2.out;omega
           have i4:(0:Int)<=(j1:Int):=by omega
           have i5:(j1:Int)<=(nL:Int):=by omega
           have i6:j1<=nL:=by omega
           have i7:nL<=h2c:=by have:=HHC2.out;omega
           have HTL:=qe (show(L2.take j).length=j by rw[List.length_take];omega);have HDL:=qe (show(L2.drop (j+1)).length=nL-j1 by rw[He,hj1,hnL]);have HLL:=qe (show 0+(L2.take j).length<=1000000000 by rw[HTL.out];have:=xI.out.len;have:=HL.out;omega);have HL1:=qe (show 0+(L2.take j).length+(L2.drop (j+1)).length<=1000000000 by rw[HTL.out,HDL.out];have:=xI.out.len;have:=HL.out;omega);obtain⟨LT,hLT⟩:=yM (L2.take j);obtain⟨LD,hLD⟩:=yM (L2.drop (j+1))
           have HSUB:=qe (show(∀q∈LT ++ LD,q∈L2)/\(LT ++ LD).length<=L2.length+1 from⟨λq hq=>by
            rw[hLT,hLD]at hq;rcases List.mem_append.1 hq with h | h
            ·exact List.mem_of_mem_take h
            ·exact List.mem_of_mem_drop h,by rw[hLT,hLD,gK,HTL.out,HDL.out];omega⟩)
           rw[<- hLT]at HHT HTL HLL HL1 ZY;rw[<- hLD]at HHD HDL HL1 ZY;rw[<- hnL];have HNL:=qe hnL;have HJ1:=qe hj1;clear hrl hj hjr hji hje hje2 hrun hj1 hnL hro hLT hLD;go_upto_region 13 with fail
           go_cut [9] (λhx wx=>∃hy,hy=hx/\wx.ownsRow w10.heap.size 80 5 hy (LT ++ LD).length (qw (LT ++ LD))/\Below w10.heap.size w10 wx)
           case first=>
            by_cases hcj:h2c=j1
            ·subst hcj;obtain rfl:nL=h2c:=by omega
             have HHE:=qe (show ∀X a c,ql X (.slice a 0 c) LD from λX a c=>by
              have h0:LD= []:=Hm (by rw[HDL.out];omega);rw[h0];exact vz X a c)
             go_region_held3 (λX=>Below w10.heap.size w10 X)
              (first | assumption | exact(gJ _ _).drew | exact hbQ | exact hbP)
              (first
               | (refine yN rfl _ _ rfl w10.heap.size (.slice none 0 0) 0 [] rfl (gZ _ _ _ _) _ LT (HHT.out _ (by assumption)) rfl HLL.out (Below.size (by assumption)) ?_;intro vP wP hoP hgP hnP;have hbP:=Below.grown (B:=w10.heap.size) (a:=w10) (by assumption) hgP (Below.size (by assumption)) (λ_ h=>by cases h))
               | (refine yN rfl _ _ rfl w10.heap.size vP (0+LT.length) ([] ++ qw LT) rfl hoP _ LD (HHE.out _ _ _) rfl HL1.out hbP.size ?_;intro vQ wQ hoQ hgQ hnQ;have hbQ:=hbP.grown hgQ hbP.size (λq hq=>(hoP.lt q hq).1)))
             all_goals
              go_wp2_with fail;go_meet;exact⟨_,rfl,jX (Nat.zero_add _) rfl hoQ,hbQ⟩
            ·have i8:j1<=h2c:=by omega
             have i9:¬(h2c=j1):=hcj
             go_region_held3 (λX=>Below w10.heap.size w10 X)
              (first | assumption | exact(gJ _ _).drew | exact hbQ | exact hbP)
              (first
               | (refine yN rfl _ _ rfl w10.heap.size (.slice none 0 0) 0 [] rfl (gZ _ _ _ _) _ LT (HHT.out _ (by assumption)) rfl HLL.out (Below.size (by assumption)) ?_;intro vP wP hoP hgP hnP;have hbP:=Below.grown (B:=w10.heap.size) (a:=w10) (by assumption) hgP (Below.size (by assumption)) (λ_ h=>by cases h))
               | (refine yN rfl _ _ rfl w10.heap.size vP (0+LT.length) ([] ++ qw LT) rfl hoP _ LD (HHD.out _ hbP) rfl HL1.out hbP.size ?_;intro vQ wQ hoQ hgQ hnQ;have hbQ:=hbP.grown hgQ hbP.size (λq hq=>(hoP.lt q hq).1)))
             all_goals
              go_wp2_with fail;go_meet;exact⟨_,rfl,jX (Nat.zero_add _) rfl hoQ,hbQ⟩
           obtain⟨hy,rfl,hoY,hbY⟩:=hcut;obtain⟨w11,hw11⟩:=yM wc;subst hw11;have HS11:=qe (show ∀lx,ql w lx t2->ZW w bn Z x tl w11 y true hy (LT ++ LD) lx t2 from λlx hlx=>
            xI.out.held hbY (λb hb=>(hoY.lt b hb).1) (qK hoY xI.out.below.size) HSUB.out.2 (λq hq=>xI.out.wf q (HSUB.out.1 q hq)) hlx ZY.out)
           clear hoY hbY xI ej ej2 i1 i2 i3 i4 i5 i6 i7;have HK4:=qe (show t2.length<=K by have:=HK2.out;simp only[Ha]at this;omega);have HHL:=qe (show m2<=l2c from HLC2.out);by_cases hc1:l2c=1
           ·subst hc1;have hmm:m2=1:=by have:=HHL.out;have:=HM2.out;omega
            subst hmm;have ht0:t2= []:=Hm (by have:=HM2.out;omega);have HT0:=qe ht0;have i1:(1:Int)<=((1:Nat):Int):=by omega
            have HSE:=qe (show ∀a c,ZW w bn Z x tl w11 _ _ _ _ (.slice a 0 c) t2 from λa c=>HS11.out _ (by rw[HT0.out];exact vz w a c));clear ht0;go_wp2_with fail
            go_roundw
            case rel=>exact⟨_,_,_,_,rfl,rfl,HK4.out,qe (HSE.out _ _)⟩
            case measure=>simp[UO]
           ·have i1:(1:Int)<=(m2:Int):=by have:=HM2.out;omega
            have i2:1<=m2:=by have:=HM2.out;omega
            have i3:m2<=l2c:=HHL.out;have i4:1<=l2c:=by omega
            have HSE:=qe (HS11.out _ (Yn HRW.out));go_wp2_with fail
            go_roundw
            case rel=>exact⟨_,_,_,_,rfl,rfl,HK4.out,HSE⟩
            case measure=>simp[UO];omega
          ·have hni:tr.xx L2 r= -1:=by unfold tr.xx;exact df.Qp λj hj=>gp λh=>hrl (h ▸ Ht hj)
           rw[hni]
           have HE:=qe (show ∀X,Below w10.heap.size w10 X->qU (tr.jw Z x tl) (qX yz) wS (.returned (.tuple #[.pointer none,.int .i64 28])) X from λX hX=>by
            have h:=xI.out.run;rw[(tr.run_none H6R.out hrl)]at h;rw[tr.uL h.symm (by decide)];exact⟨by decide,HBS.out.trans ((xI.out.below.trans (hX.mono xI.out.below.size)).mono HBS.out.size),rfl⟩)
           clear hrl hni;go_wp2_with fail;go_ret2;exact HE.out _ (gJ _ _)
     ·have hyn:y≠now:=of_decide_eq_true HNB.out.symm
      have HE:=qe (show ∀X,Below w6.heap.size w6 X->qU (tr.jw Z x tl) (qX yz) wS (.returned (.tuple #[.pointer none,.int .i64 30])) X from λX hX=>by
       have h:=HS6.out.run;rw[(tr.run_old HY6.out hyn)]at h;rw[tr.uL h.symm (by decide)];exact⟨by decide,HBS.out.trans ((HS6.out.below.trans (hX.mono HS6.out.below.size)).mono HBS.out.size),rfl⟩)
      clear hyn;go_wp2_with fail;go_ret2;exact HE.out _ (gJ _ _)
    ·obtain⟨hyn,hm9,hyx⟩:y=now/\m=1/\y=x:=of_decide_eq_true HFB.out.symm;subst hyn;subst hyx;have ht0:t= []:=Hm (by have:=HM.out;omega);have HMK:=qe (show tr.jw Z y tl= .make Z.ap (L ++ [y]) from by
      have h:=HS5.out.run;rw[tr.run_end HY6.out rfl ht0 rfl]at h;exact tr.X0 h.symm)
     have jo:=qe HS5.out.below;have HN5:=qe HS5.out.box;have HAL5:=qe (show ∀X,Below w.heap.size w X->X.heap[bn]? =w5.heap[bn]?->Below w.heap.size w X/\X.cell? ⟨yz,0,none⟩=some (.string Z.ap)/\X.cell? ⟨bn,0,none⟩=some (.string y.owner)/\X.cell? ⟨bn,1,none⟩=some (.int .i64 y.typ)/\X.cell? ⟨bn,2,none⟩=some (.int .i64 y.cls)/\X.cell? ⟨bn,3,none⟩=some (.int .i64 y.ttl)/\X.cell? ⟨bn,4,none⟩=some (.string y.data) from λX hX h6X=>
      ⟨hX,HTOP.out X (gm HBS.out hX),jF.cells (show jF X bn y from h6X.trans HN5.out)⟩)
     have HFN:=qe (show ∀(X:World) (u:Value),ql X u (L ++ [y])->Calls Tryz.prog 60 #[.string Z.ap,u] X λe w'=>jZ Z.ap (L ++ [y]) X e w' from HFI.out _ (by simp) λr hr=>by
      rcases List.mem_append.1 hr with h | h
      ·exact HS5.out.wf r h
      ·rw[List.mem_singleton.1 h];exact HS5.out.nwf)
     have HLN:=qe (show L.length+([y]:List Rec).length<=1000000000 by have h1:=HS5.out.len;have h2:=HL.out;rw[Ha]at h1;rw[gT];omega);clear ht0 hm9;clear a0 a1 a2 a3 a4;clear n0 n1 n2 n3 n4 x0 x1 x2 x3 x4;go_upto_region 5 with fail;obtain⟨-,q0,n0,n1,n2,n3,n4⟩:=HAL5.out w5 jo.out rfl
     go_region_held3 (λX=>Below w.heap.size w X/\X.cell? ⟨yz,0,none⟩=some (.string Z.ap)/\X.cell? ⟨bn,0,none⟩=some (.string y.owner)/\X.cell? ⟨bn,1,none⟩=some (.int .i64 y.typ)/\X.cell? ⟨bn,2,none⟩=some (.int .i64 y.cls)/\X.cell? ⟨bn,3,none⟩=some (.int .i64 y.ttl)/\X.cell? ⟨bn,4,none⟩=some (.string y.data))
      (first | assumption | exact HAL5.out _ jo.out.drew rfl | exact HAL5.out _ uX hbX6 | exact HAL5.out _ hbP hbP6 | exact HAL5.out _ (jo.out.drew.alloc jo.out.size _) (((gJ w5.heap.size w5).drew.alloc (gI _) _).block bn (zm HN5.out)))
      (first
       | (go_at_call 60;(with_reducible refine(HFN.out _ _ (qF (jX rfl rfl hoP))).mono ?_);intro e wX hpp;obtain⟨hbX,r1',r2',rfl,hpp⟩:=hpp.two;have uX:=gm hbP hbX;have hbX6:=(hbX.block bn (zm (hbP6.trans HN5.out))).trans hbP6)
       | (refine Yg rfl _ _ rfl w.heap.size _ _ _ rfl (ownsRow_below HS5.out.own ((gJ w5.heap.size w5).drew.alloc (gI _) _)) _ (kC (kL (w:=w5.drew) (base:=w.heap.size) y rfl jo.out.size)) _ (qF (kL (w:=w5.drew) (base:=w.heap.size) y rfl jo.out.size)) rfl HLN.out (Below.size (jo.out.drew.alloc jo.out.size _)) ?_;intro vP wP hoP hgP hnP;have hbP:=(jo.out.drew.alloc jo.out.size _).grown hgP (Below.size (jo.out.drew.alloc jo.out.size _)) (λq hq=>(HS5.out.own.lt q hq).1);have hbP6:=(hgP.block bn (gN (zm HN5.out) (Below.size ((gJ w5.heap.size w5).drew.alloc (gI _) _))) (λe=>HS5.out.far bn e.symm rfl)).trans (((gJ w5.heap.size w5).drew.alloc (gI _) _).block bn (zm HN5.out))))
     all_goals (go_wp2_with fail;go_ret2;rw[HMK.out];exact jZ.from (gm HBS.out hbP) hpp)
end Go.Proofs.YtpcmilhjpmlbpaaGreatDoor
