import Derived.Test.YtpcmilhjpmlbpaaGreatDoorQCpI
import Derived.Test.YtpcmilhjpmlbpaaGreatDoorQCpD
set_option maxRecDepth 100000
set_option maxHeartbeats 16000000
namespace Go.Proofs.YtpcmilhjpmlbpaaGreatDoor
open Go.RowKit Go.Shelf nm od
theorem uK.row {base:Nat}{w:World}{v:Value}{h:Hd}{qs:List Qn}{L:List (List Rec)}(hA:uK base w v h qs L)(hq:qs.length<=1000000000000)(hl:∀p∈L,p.length<=1000000000000):uf w v (tr.YP h qs L):=by
 obtain⟨P,h1,h2,h3,-,-⟩:=hA;exact msgs_row h1 h2 (λk hk=>UF (h3 k hk (by omega)).1) (λk hk hk2=>qF (h3 k hk hk2).2) hq hl
theorem uf.front {w:World}{ao:Option Addr}{n cap:Nat}{l:List Msg}(h:uf w (.slice ao n cap) l){k:Nat}(hk:k<=l.length):uf w (.slice ao k cap) (l.take k):=by
 obtain⟨a,c,hv,hc,h3⟩:=h;simp only[gL]at hv;obtain⟨rfl,rfl,rfl⟩:=hv;have hl:(l.take k).length=k:=by rw[List.length_take];omega
 refine⟨_,_,by rw[hl],by omega,λj hj=>?_⟩;have h4:=h3 j (by omega);rw[List.getElem_take];exact h4
theorem rows_small {l:List Msg}(h:l.length<=130)(h2:∀m∈l,m.an.length<=16):(tr.rowsOf l).length<=10000000:=by
 have:∀(l:List Msg),(∀m∈l,m.an.length<=16)->(tr.rowsOf l).length<=l.length*16:=λl=>by
  induction l with
  | nil=>intro _;simp[tr.rowsOf]
  | cons m l ih=>
    intro hm;have h3:=ih λx hx=>hm x (List.mem_cons_of_mem _ hx);have h4:=hm m (List.mem_cons_self ..);unfold tr.rowsOf at h3 ⊢;rw[List.flatMap_cons,gK,Ha];omega
 have h3:=this l h2;omega
theorem take_short {l:List Msg}(h:l.length<=130)(h2:∀m∈l,m.an.length<=16)(k:Nat):(l.take k).length<=1000000000/\(tr.rowsOf (l.take k)).length<=10000000:=by
 have h3:(l.take k).length<=130:=by rw[List.length_take];omega
 exact⟨by omega,rows_small h3 λm hm=>h2 m (List.mem_of_mem_take hm)⟩
theorem ser_fold {a b:ByteArray}{l:List Rec}(h:qy a=qy b):tr.yD ⟨a,l⟩=tr.yD ⟨b,l⟩:=by
 have h2:tr.qZ ⟨a,l⟩=tr.qZ ⟨b,l⟩:=by unfold tr.qZ;simp only;rw[h]
 unfold tr.yD;rw[h2]
def Vi (H:List tr.Zn)(idn:Int)(zv:Value)(Zo:Option tr.Zn)(n:ByteArray)(t:Int)(au:List Rec)(w:World):Prop:=VV w zv Zo/\tr.YK H Zo (tr.QT n t idn au)/\au.length<=1/\
 ∀X,Below w.heap.size w X->Calls Tryz.prog 17 #[zv,.string (tr.qR H).ap,.int .i64 idn] X λe w'=>AskMsg n t idn au X e w'
theorem copyHas_none {H:List tr.Zn}{w:World}(hH:tr.Uj H){idn:Int}(hid:0<=idn/\idn<=65535):Vi H idn (.pointer none) none (tr.qR H).ap 252 [] w:=
 ⟨.inl ⟨rfl,rfl⟩,tr.copy_none hH hid,by simp,λX _=>(ask_nil (tr.qR H).ap idn X).mono λe w' h=>by
  have h0:tr.uS (tr.qR H).ap idn=0:=by unfold tr.uS tr.idI;rw[if_neg (by rw[hH.last.ap];simp),if_neg (by omega)]
  rcases h with⟨h1,-⟩|⟨-,h⟩
  ·exact absurd h0 h1
  ·exact h⟩
theorem copyHas_some {H:List tr.Zn}{w:World}{z:Nat}(hH:tr.Uj H)(hr:tr.vo H=true){idn:Int}(hid:0<=idn/\idn<=65535){f:Nat}(hf:f<H.length)(hz:jB w w.heap.size z (tr.zh H f).ap (tr.zh H f).l):Vi H idn (qX z) (some (tr.zh H f)) (tr.zh H f).ap 251 [tr.qZ (tr.zh H f)] w:=
 ⟨.inr ⟨_,z,rfl,rfl,hH.ok f hf,hz⟩,tr.copy_some hH hr hid hf,by simp,λX hX=>(ask_zone X.heap.size z _ (hH.ok f hf) (tr.qR H).ap idn X (hz.kept hX).top).mono λe w' h=>by
  have h0:tr.idI idn=0:=by unfold tr.idI;rw[if_neg (by omega)]
  rcases h with⟨h1,-⟩|⟨-,h⟩
  ·exact absurd h0 h1
  ·exact h⟩
theorem copy_full {H:List tr.Zn}{Zo:Option tr.Zn}{q:Msg}{xs:List Msg}{zv:Value}{w w':World}{e:Ending}(hv:tr.Ok (tr.qR H))(hs:(tr.qR H).l.Pairwise (λa b=>zn.zY a b<=0))(hz:VV w zv Zo)
 (hc:(tr.jf Zo q xs= .same/\Zo=some (tr.qR H))\/∃ap l,tr.jf Zo q xs= .make ap l/\l.Perm (tr.qR H).l/\qo ap=true/\qy ap=qy (tr.qR H).ap) (hp:kF (tr.jf Zo q xs) zv w e w'):
 ∃z ap,e= .returned (.tuple #[qX z,.int .i64 0])/\Below w.heap.size w w'/\tr.Ok ⟨ap,(tr.qR H).l⟩/\tr.yD ⟨ap,(tr.qR H).l⟩=tr.yD (tr.qR H)/\jB w' w'.heap.size z ap (tr.qR H).l:=by
 obtain⟨hB,hp⟩:=hp;rcases hc with⟨h1,h2⟩|⟨ap,l,h1,hperm,hap,hfo⟩
 ·rw[h1]at hp;rcases hz with⟨h3,-⟩|⟨A,z,h3,h4,h5,h6⟩
  ·rw[h2]at h3;cases h3
  ·rw[h2]at h3;obtain rfl:=Hr h3;refine⟨z,(tr.qR H).ap,?_,hB,hv,rfl,(h6.kept hB).top⟩;rw[<- h4];exact hp
 ·rw[h1]at hp;have hvl:zn.Valid ap (tr.qR H).l:=zn.valid_fold hv hap hfo.symm;have hvp:zn.Valid ap l:=zn.valid_perm hvl hperm.symm;rcases hp with⟨-,top,z,L,hso,rfl,hzf⟩|⟨k,c,hne,-⟩
  ·have hL:L=(tr.qR H).l:=hso.eq ⟨hperm.symm,hs⟩ hvp.named (zn.KM hvp);subst hL;exact⟨z,ap,rfl,hB,hvl,ser_fold hfo,hzf.top⟩
  ·rw[zn.K7 hvp]at hne;cases hne
theorem copied_any (base:Nat)(H:List tr.Zn)(h:Nat)(zs ys:List Nat)(gv:Value)(hH:tr.Uj H)(h8:H.length<=8)(hlz:zs.length=H.length)(hly:ys.length=H.length)(idn cut:Int)(hid:0<=idn/\idn<=65535)(hct:-9223372036854775808<=cut/\cut<=9223372036854775807)
 (w:World) (het:ErrT w) (hh:xE w base h zs) (hzs:KI w zs H) (hr:xM w gv ys) (hrz:JO w ys H) (hv:Value) (hhas:hv= .pointer none\/(tr.vo H=true/\∃f,∃hf:f<ys.length,hv=qX ys[f])):
 Calls Tryz.prog 26 #[.pointer (some ⟨h,0,none⟩),gv,hv,.int .i64 idn,.int .i64 cut] w λe w'=>e= .returned (.bool true)/\Below w.heap.size w w':=by
 obtain⟨hp,rfl⟩:∃p,hv= .pointer p:=by
  rcases hhas with h1 | ⟨-,f,hf,h1⟩
  ·exact⟨_,h1⟩
  ·exact⟨_,h1⟩
 obtain⟨n,hn⟩:=yM ys.length;have hne:=hH.ne;obtain⟨n1,hn1⟩:=yM (n-1);have hlast:tr.qR H=H[n1]'(by omega):=by
  rw[<- tr.Qd (by omega)];unfold tr.qR
  congr 1
  omega
 obtain⟨Zl,hZl⟩:=yM (tr.qR H);obtain⟨yl,hyl⟩:=yM (ys[n1]'(by omega));have hzl:=hrz.2 n1 (by omega) (by omega);rw[<- hlast,<- hyl,<- hZl]at hzl;obtain⟨okl,-,ryl⟩:=hzl;have hsl:Zl.l.Pairwise (λa b=>zn.zY a b<=0):=by
  obtain⟨-,top,hzf⟩:=hzs.2 n1 (by omega) (by omega);rw[<- hlast,<- hZl]at hzf;exact hzf.sorted
 obtain⟨g,off,cap,rfl,hcap,hgl,cz⟩:=id hr;have c1:=cz n1 (by omega);rw[<- hyl]at c1;obtain⟨gl,cl,hyc,hyr⟩:=id ryl
 have HYL:=qe (show ∀X,Below w.heap.size w X->X.cell? ⟨yl,0,none⟩=some (.string Zl.ap)/\X.cell? ⟨yl,1,none⟩=some (.slice (some ⟨gl,0,none⟩) Zl.l.length cl) from λX hX=>by
  have h1:=(hX.block yl (zm hyc)).trans hyc;exact⟨by rw[qg h1];rfl,by rw[qg h1];rfl⟩)
 have HYR:=qe (show ∀X,Below w.heap.size w X->uQ X yl Zl.ap Zl.l/\ql X (.slice (some ⟨gl,0,none⟩) Zl.l.length cl) Zl.l from λX hX=>⟨ryl.below hX,hyr.below hX⟩);have e1:(n:Int)-1=(n1:Int):=by omega
 have e2:IntKind.i64.wrap (n1:Int)=(n1:Int):=Hg _ (by omega);have e3:(n1:Int)<(n:Int):=by omega
 have e4:n1<n:=by omega
 have HHAS:=qe (show hp=none\/(∃f,∃hf:f<H.length,∃y ga ca,tr.vo H=true/\hp=some ⟨y,0,none⟩/\(tr.zh H f).l.Pairwise (λa b=>zn.zY a b<=0)/\w.heap[y]? =some (.cells #[.string (tr.zh H f).ap,.slice (some ⟨ga,0,none⟩) (tr.zh H f).l.length ca] 58 (0,0))/\ql w (.slice (some ⟨ga,0,none⟩) (tr.zh H f).l.length ca) (tr.zh H f).l) from by
  rcases hhas with h1 | ⟨h1,f,hf,h0⟩
  ·simp only[Value.pointer.injEq]at h1;exact .inl h1
  ·simp only[Value.pointer.injEq]at h0;subst h0;right;have hfH:f<H.length:=by omega
   have h2:=hrz.2 f hf hfH;obtain⟨-,top,h3⟩:=hzs.2 f (by omega) hfH;rw[<- tr.Qd hfH]at h2 h3;obtain⟨-,-,ga,ca,h4,h5⟩:=h2;exact⟨f,hfH,_,ga,ca,h1,rfl,h3.sorted,h4,h5⟩)
 rw[<- hn];have HH:=qe hh;have HZS:=qe hzs;have HHI:=qe hH;have H8:=qe h8;have HLZ:=qe hlz;have HID:=qe hid;have HCT:=qe hct;have HET:=qe het;have HZL:=qe hZl;have HOKL:=qe okl;have HSL:=qe hsl;have HPOS:=qe (show 0<zs.length by omega);clear hh hzs hH h8 hlz hly hid hct het hr hrz hhas hlast hZl hyl okl ryl hsl hcap hgl cz hyc hyr hn hn1 hne
 go_enter Tryz.func26,Tryz.ntmps26
 go_upto_if 28 with fail
 clear c1 e1 e2 e3 e4
 go_cut [12] (λzv wx=>∃zp Zo nn t au,zv= .pointer zp/\Hid (Vi H idn (.pointer zp) Zo nn t au wx)/\Hid (Below w.heap.size w wx))
 case first=>
  rcases HHAS.out with rfl | ⟨f,hf,ya,ga,ca,hris,rfl,hso,hya,hra⟩
  ·have HC:=qe (copyHas_none (w:=w) HHI.out HID.out);go_wp2_with fail;go_meet;exact⟨_,_,_,_,_,rfl,HC,qe (gJ _ _)⟩
  ·obtain⟨A,hA⟩:=yM (tr.zh H f);have okA:tr.Ok A:=by rw[hA];exact HHI.out.ok f hf
   have HC:=qe (show ∀(X:World) (z:Nat),jB X X.heap.size z A.ap A.l->Vi H idn (qX z) (some A) A.ap 251 [tr.qZ A] X from λX z hz=>by
    rw[hA]at hz ⊢;exact copyHas_some HHI.out hris HID.out hf hz)
   rw[<- hA]at hso hya hra;have HNW:=qe (show ∀X,Below w.heap.size w X->Calls Tryz.prog 45 #[.string A.ap,.slice (some ⟨ga,0,none⟩) A.l.length ca] X λe w'=>∃z r,e= .returned (.tuple #[qX z,r,.int .i64 0])/\Below X.heap.size X w'/\Vi H idn (qX z) (some A) A.ap 251 [tr.qZ A] w' from λX hX=>
    (new7_any A.ap A.l (λr hr=>wf_zone okA hr) _ (.inr ⟨_,_,_,rfl⟩) X (hra.below hX)).mono λe w' hp=>by
     obtain⟨hB1,z,L,_,hs,rfl,hzf⟩:=UJ hp (zn.K7 okA);have hL:L=A.l:=hs.eq ⟨List.Perm.refl _,hso⟩ okA.named (zn.KM okA);subst hL;exact⟨z,_,rfl,hB1,HC.out w' z hzf.top⟩)
   have zk:=qe (show ∀X,Below w.heap.size w X->Below w.heap.size w X/\X.cell? ⟨ya,0,none⟩=some (.string A.ap)/\X.cell? ⟨ya,1,none⟩=some (.slice (some ⟨ga,0,none⟩) A.l.length ca) from λX hX=>by
    have h1:=(hX.block ya (zm hya)).trans hya;exact⟨hX,by rw[qg h1];rfl,by rw[qg h1];rfl⟩)
   clear hA okA hris hso hya hra hf;go_upto_region 4 with fail;obtain⟨-,a0,a1⟩:=zk.out w (gJ _ _)
   go_region_held3 (λX=>Below w.heap.size w X/\X.cell? ⟨ya,0,none⟩=some (.string A.ap)/\X.cell? ⟨ya,1,none⟩=some (.slice (some ⟨ga,0,none⟩) A.l.length ca))
    (first | assumption | exact zk.out _ (gJ _ _).drew | exact zk.out _ hbN2 | (go_split_ands;exact zk.out _ (by assumption)))
    (first | (go_at_call 45;(with_reducible refine(HNW.out _ (by go_split_ands;assumption)).mono ?_);rintro e wN ⟨zN,rN,rfl,hbN,hcN⟩;go_split_ands;have hbN2:=Below.trans (B:=w.heap.size) (a:=w) (by assumption) (hbN.mono (Below.size (by assumption)));have HCN:=qe hcN;have HBN:=qe hbN2;clear hcN))
   all_goals
    go_wp2_with fail;go_meet;exact⟨_,_,_,_,_,rfl,HCN,HBN⟩
 obtain⟨zp,Zo,nn,t,au,rfl,HCH,HB1⟩:=hcut;obtain⟨w1,hw1⟩:=yM wc;subst hw1;obtain⟨y0,-⟩:=HYL.out w1 HB1.out;have HASK:=qe (show Calls Tryz.prog 17 #[.pointer zp,.string Zl.ap,.int .i64 idn] w1 λe w'=>AskMsg nn t idn au w1 e w' from by rw[HZL.out];exact HCH.out.2.2.2 w1 (gJ _ _));go_wp2_with fail;refine HASK.out.mono ?_;rintro e w2 ⟨gq,u,rfl,hB2,hq2,hu2,hf2⟩;have HB2:=qe (gm HB1.out hB2);have ZZ:=qe hB2;obtain⟨ua,uc,rfl,-⟩:=id hu2;obtain⟨un,hun⟩:=yM au.length;rw[<- hun]at hu2 hf2 ⊢;have HUN:=qe hun;clear hun;obtain⟨w3,hw3⟩:=yM (w2.alloc (.cells (yT (hdI idn) (.slice (some ⟨gq,0,none⟩) 1 1) (.slice none 0 0) (.slice ua un uc) (.slice none 0 0)).toArray 33));obtain⟨hB3,hs3,hm3⟩:=zG hw3;obtain⟨bm,hbm⟩:=yM w2.heap.size;rw[<- hbm]at hm3;obtain⟨M0,hM0⟩:=yM (tr.QT nn t idn au);have hnil:∀X:World,ql X (.slice none 0 0) []:=λX=>⟨none,0,rfl,gI _,λk hk=>absurd hk (Nat.not_lt_zero _)⟩;have HQ3:=qe (hq2.below hB3);have HU3:=qe (hu2.below hB3);have HNI:=qe hnil;have HB3:=qe (gm HB2.out hB3);have QH:=qe (gm ZZ.out hB3);have HLU:=qe (show au.length<=1000000000000 by have:=HCH.out.2.2.1;omega);have HANS:=qe (show Calls Tryz.prog 11 #[.pointer (some ⟨h,0,none⟩),yu (hdI idn) (.slice (some ⟨gq,0,none⟩) 1 1) (.slice none 0 0) (.slice ua un uc) (.slice none 0 0)] w3 λe w'=>Y0 (tr.QG H M0) [⟨nn,t,1⟩] w3 e w' from by
  rw[hM0];exact answer_any base h zs H HPOS.out (by have:=HLZ.out;have:=H8.out;omega) idn false 0 false false false false false false 0 [⟨nn,t,1⟩] [] au [] (by simp) (by simp) HLU.out (by simp) _ _ _ _ (.inr ⟨_,_,_,_,rfl⟩) w3 (HH.out.below HB3.out) (HZS.out.below HB3.out) HQ3.out (hnil w3) HU3.out (hnil w3))
 have HTK:=qe (show ∀(X:World) (xv:Value) (xs:List Msg),xs.length<=1000000000->(tr.rowsOf xs).length<=10000000->Below w3.heap.size w3 X->uf X xv xs->Calls Tryz.prog 20 #[.pointer zp,yu (hdI idn) (.slice (some ⟨gq,0,none⟩) 1 1) (.slice none 0 0) (.slice ua un uc) (.slice none 0 0),xv] X λe w'=>kF (tr.jf Zo M0 xs) (.pointer zp) X e w' from λX xv xs h1 h2 hX hx=>by
  rw[hM0];exact take7_any Zo (.pointer zp) idn false 0 false false false false false false 0 [⟨nn,t,1⟩] [] au [] (by simp) (by simp) HLU.out (by simp) _ _ _ _ xs h1 h2 xv X (HET.out.below (gm HB3.out hX)) (HCH.out.1.below (gm QH.out hX)) (HQ3.out.below hX) (HNI.out X) (HU3.out.below hX) (HNI.out X) hx)
 have HCP:=qe (show tr.YK H Zo M0 from by rw[hM0];exact HCH.out.2.1);have HM3:=qe hm3;have HW3:=qe hw3;have HBM:=qe hbm;clear hB2 hq2 hu2 hf2 hw3 hB3 hs3 hm3 hbm hM0 hnil HASK y0;go_upto_region 10 with fail;rw[<- HW3.out,<- HBM.out];obtain⟨x0,x1,x2,x3,x4,x5,x6,x7,x8,x9,x10,x11,x12,x13⟩:=HM3.out.facts;go_wp2_with fail;refine HANS.out.mono ?_;rintro e w4 ⟨hA,P,v,hL,hP2,hP16,rfl,hB4,hown⟩;obtain⟨xs,hxs⟩:=yM (tr.QG H M0);have hrow:uf w4 v xs:=by
  rw[hxs,hL];exact hown.row (by simp) λp hp=>by have:=hP16 p hp;omega
 have hcp:=HCP.out;unfold tr.YK at hcp;rw[<- hxs]at hcp;obtain⟨p0,p130,p16,pk,pe⟩:=hcp;have HB34:=qe hB4;have HB4:=qe (gm HB3.out hB4);have jG:=qe hrow;have HP16:=qe p16;have HPK:=qe pk;have HPE:=qe pe;have HP130:=qe p130;have HP0:=qe p0;obtain⟨va,vc,rfl,hvc,-⟩:=id hrow;obtain⟨m,hm⟩:=yM xs.length;have HMM:=qe hm;have HVC:=qe (show m<=vc by rw[hm];exact hvc);rw[<- hm];clear hA hL hP2 hP16 hB4 hown hxs hrow p0 p130 p16 pk pe hvc hm HANS HCP x0 x1 x2 x3 x4 x5 x6 x7 x8 x9 x10 x11 x12 x13;have Y7:=qe (show uf w4 (.slice va m vc) xs by rw[HMM.out];exact jG.out);clear jG;go_wp2_with fail
 go_loopw [61] (λkv wr=>∃k:Nat,k<=m/\kv= .int .i64 (k:Int)/\Hid (Below w4.heap.size w4 wr)) (λkv _=>m-(intOf kv).toNat)
 case atStart=>exact⟨0,gU _,rfl,qe (gJ _ _)⟩
 case round=>
  obtain⟨k,hk,rfl,HBR⟩:=hrel;obtain⟨wr4,hw4⟩:=yM wr;subst hw4;by_cases hlt:k<m
  ·have hki:(k:Int)<(m:Int):=by omega
   have ek:IntKind.i64.wrap ((k:Int)+1)=(k:Int)+1:=Hg _ (by have:=HP130.out;have:=HMM.out;omega);have hkx:k<xs.length:=by have:=HMM.out;omega
   obtain⟨xb,xoff,mq,ma,mu,md,rfl,⟨c0,c1,c2,c3,c4,c5,c6,c7,c8,c9,c10,c11,c12,c13⟩,hin,hle⟩:=xW (Y7.out.below HBR.out) hkx;obtain⟨M,hM⟩:=yM (xs[k]);have h16:=HP16.out xs[k] (Ht hkx);rw[<- hM]at c0 c1 c2 c3 c4 c5 c6 c7 c8 c9 hin hle h16;obtain⟨w5,hw5⟩:=yM (wr4.alloc (.cells (yT M.h mq ma mu md).toArray 33));obtain⟨hB5,hs5,hm5⟩:=zG hw5;obtain⟨bx,hbx⟩:=yM wr4.heap.size;rw[<- hbx]at hm5;obtain⟨mqa,mqc,rfl,-⟩:=id hin.rq;obtain⟨maa,mac,rfl,-⟩:=id hin.ra;obtain⟨mua,muc,rfl,-⟩:=id hin.ru;obtain⟨mda,mdc,rfl,-⟩:=id hin.rd;have d0:((M.an.length:Int) == 0)=false:=by rw[gG];omega
   have d1:¬((16:Int)<(M.an.length:Int)):=by omega
   have HW5:=qe hw5;have HBX:=qe hbx;have HM5:=qe hm5;have jI:=qe (gm HBR.out hB5);have HLT:=qe hlt;have HKI:=qe hki;clear hM h16 hin hle hw5 hB5 hs5 hm5 hbx hkx;go_upto_region 14 with fail;rw[<- HW5.out,<- HBX.out];clear c0 c1 c2 c3 c4 c5 c6 c7 c8 c9 c10 c11 c12 c13;obtain⟨x0,x1,x2,x3,x4,x5,x6,x7,x8,x9,x10,x11,x12,x13⟩:=HM5.out.facts;go_wp2_with fail
   go_roundw
   case rel=>exact⟨k+1,by omega,by go_num,jI⟩
   case measure=>simp[intOf];omega
  ·obtain rfl:k=m:=by omega
   obtain⟨w5,hw5⟩:=yM wr4;subst hw5;have HROW5:=qe (Y7.out.below HBR.out);have HB5:=qe (gm HB4.out HBR.out);have QV:=qe (gm HB34.out HBR.out);obtain⟨xb,xoff,rfl⟩:∃b off,va=some ⟨b,off,none⟩:=by
    obtain⟨b,off,_,_,_,_,e,-⟩:=xW HROW5.out HP0.out;exact⟨b,off,e⟩
   have i0:(0:Int)<(k:Int):=by have:=HP0.out;have:=HMM.out;omega
   have hpi:=tr.pick_in cut i0;obtain⟨kq,hkq⟩:∃kq:Nat,tr.Xc cut (k:Int)=(kq:Int):=⟨(tr.Xc cut (k:Int)).toNat,by omega⟩;have hkl:kq<xs.length:=by have:=HMM.out;omega
   have HPI:=qe (show ∀X,Calls Tryz.prog 25 #[.int .i64 cut,.int .i64 (k:Int)] X λe w'=>e= .returned (.int .i64 (kq:Int))/\w'=X from λX=>by
    have h1:=pick_any cut (k:Int) HCT.out ⟨i0,by have:=HP130.out;have:=HMM.out;omega⟩ X;rw[hkq]at h1;exact h1)
   obtain⟨c,hc0,hc⟩:=HPK.out kq hkl;have hsh:=take_short HP130.out (λm hm=>(HP16.out m hm).2) kq;have HT1:=qe (show ∀X,Below w5.heap.size w5 X->Calls Tryz.prog 20 #[.pointer zp,yu (hdI idn) (.slice (some ⟨gq,0,none⟩) 1 1) (.slice none 0 0) (.slice ua un uc) (.slice none 0 0),.slice (some ⟨xb,xoff,none⟩) kq vc] X λe w'=>e= .returned (.tuple #[.pointer none,.int .i64 c])/\Below X.heap.size X w' from λX hX=>
    (HTK.out X _ (xs.take kq) hsh.1 hsh.2 (gm QV.out hX) ((HROW5.out.below hX).front (by omega))).mono λe w' hp=>by
     rw[hc]at hp;exact⟨hp.2.2,hp.1⟩)
   have i1:(0:Int)<=(kq:Int):=by omega
   have i2:(kq:Int)<=(vc:Int):=by have:=HVC.out;have:=HMM.out;omega
   have i3:kq<=vc:=by omega
   have i4:(c == 0)=false:=by rw[gG];exact hc0
   have zk:=qe (show ∀X,Below w5.heap.size w5 X->Below w5.heap.size w5 X/\X.cell? ⟨bm,0,none⟩=some (.int .i64 idn)/\X.cell? ⟨bm,1,none⟩=some (.bool false)/\X.cell? ⟨bm,2,none⟩=some (.int .i64 0)/\X.cell? ⟨bm,3,none⟩=some (.bool false)/\X.cell? ⟨bm,4,none⟩=some (.bool false)/\X.cell? ⟨bm,5,none⟩=some (.bool false)/\X.cell? ⟨bm,6,none⟩=some (.bool false)/\X.cell? ⟨bm,7,none⟩=some (.bool false)/\X.cell? ⟨bm,8,none⟩=some (.bool false)/\X.cell? ⟨bm,9,none⟩=some (.int .i64 0)/\X.cell? ⟨bm,10,none⟩=some (.slice (some ⟨gq,0,none⟩) 1 1)/\X.cell? ⟨bm,11,none⟩=some (.slice none 0 0)/\X.cell? ⟨bm,12,none⟩=some (.slice ua un uc)/\X.cell? ⟨bm,13,none⟩=some (.slice none 0 0) from λX hX=>
    ⟨hX,(HM3.out.below (gm QV.out hX)).facts⟩)
   clear hpi hkq hkl hc0 hc hsh hlt hk;go_upto_region 18 with fail
   go_cut [18,19] (λa b wx=>a= .pointer none/\b= .int .i64 c/\Below w5.heap.size w5 wx)
   case first=>
    obtain⟨-,x0,x1,x2,x3,x4,x5,x6,x7,x8,x9,x10,x11,x12,x13⟩:=zk.out w5 (gJ _ _)
    go_region_held3
     (λX=>Below w5.heap.size w5 X/\X.cell? ⟨bm,0,none⟩=some (.int .i64 idn)/\X.cell? ⟨bm,1,none⟩=some (.bool false)/\X.cell? ⟨bm,2,none⟩=some (.int .i64 0)/\X.cell? ⟨bm,3,none⟩=some (.bool false)/\X.cell? ⟨bm,4,none⟩=some (.bool false)/\X.cell? ⟨bm,5,none⟩=some (.bool false)/\X.cell? ⟨bm,6,none⟩=some (.bool false)/\X.cell? ⟨bm,7,none⟩=some (.bool false)/\X.cell? ⟨bm,8,none⟩=some (.bool false)/\X.cell? ⟨bm,9,none⟩=some (.int .i64 0)/\X.cell? ⟨bm,10,none⟩=some (.slice (some ⟨gq,0,none⟩) 1 1)/\X.cell? ⟨bm,11,none⟩=some (.slice none 0 0)/\X.cell? ⟨bm,12,none⟩=some (.slice ua un uc)/\X.cell? ⟨bm,13,none⟩=some (.slice none 0 0))
     (first | assumption | exact zk.out _ (gJ _ _).drew | (go_split_ands;exact zk.out _ (by assumption)))
     (first
      | (go_at_call 25;(with_reducible refine(HPI.out _).mono ?_);rintro e wN ⟨rfl,hE⟩;obtain rfl:=hE.symm;clear hE)
      | (go_at_call 20;(with_reducible refine(HT1.out _ (by go_split_ands;assumption)).mono ?_);rintro e wT ⟨rfl,hbT⟩;go_split_ands;have hbT2:=Below.trans (B:=w5.heap.size) (a:=w5) (by assumption) (hbT.mono (Below.size (by assumption)))))
    all_goals
     go_wp2_with fail;go_meet;exact⟨rfl,rfl,hbT2⟩
   obtain⟨rfl,rfl,hB6⟩:=hcut;obtain⟨w6,hw6⟩:=yM wc;subst hw6;have HB56:=qe hB6;have HB6:=qe (gm HB5.out hB6);have XM:=qe (gm QV.out hB6);have HROW6:=qe (HROW5.out.below hB6);have HM6:=qe (HM3.out.below XM.out);have HT2:=qe (show Calls Tryz.prog 20 #[.pointer zp,yu (hdI idn) (.slice (some ⟨gq,0,none⟩) 1 1) (.slice none 0 0) (.slice ua un uc) (.slice none 0 0),.slice (some ⟨xb,xoff,none⟩) k vc] w6 λe w'=>∃z ap,e= .returned (.tuple #[qX z,.int .i64 0])/\Below w6.heap.size w6 w'/\tr.Ok ⟨ap,Zl.l⟩/\tr.yD ⟨ap,Zl.l⟩=tr.yD Zl/\jB w' w'.heap.size z ap Zl.l from
    (HTK.out w6 _ xs (by have:=HP130.out;omega) (rows_small HP130.out λm hm=>(HP16.out m hm).2) XM.out HROW6.out).mono λe w' hp=>by
     rw[HZL.out];exact copy_full (by rw[<- HZL.out];exact HOKL.out) (by rw[<- HZL.out];exact HSL.out) (HCH.out.1.below (gm QH.out XM.out)) HPE.out hp)
   clear hB6 zk HT1 HPI i0 i1 i2 i3;obtain⟨x0,x1,x2,x3,x4,x5,x6,x7,x8,x9,x10,x11,x12,x13⟩:=HM6.out.facts;go_wp2_with fail;refine HT2.out.mono ?_;rintro e w7 ⟨z7,ap7,rfl,hB7,hok7,hse7,hzf7⟩;have HB7:=qe (gm HB6.out hB7);obtain⟨sn,hsn⟩:=yM (tr.yD Zl)
   have HS1:=qe (show ∀X,Below w7.heap.size w7 X->Calls Tryz.prog 61 #[qX z7] X λe w'=>e= .returned (.int .i64 sn)/\Below X.heap.size X w' from λX hX=>by
    have h1:=J2 w7.heap.size z7 ⟨ap7,Zl.l⟩ hok7 X (hzf7.kept hX);rw[hse7,<- hsn]at h1;exact h1)
   have HS2:=qe (show ∀X,Below w7.heap.size w7 X->Calls Tryz.prog 57 #[qX yl] X λe w'=>e= .returned (.int .i64 sn)/\Below X.heap.size X w' from λX hX=>by
    rw[hsn];exact Uy yl Zl HOKL.out X (HYR.out X (gm HB7.out hX)).1)
   have HS3:=qe (show ∀X,Below w7.heap.size w7 X->Calls Tryz.prog 23 #[qX z7] X λe w'=>jk Zl.l X e w' from λX hX=>
    kH _ z7 ap7 Zl.l hzf7.small X (hzf7.kept hX).v)
   have HS4:=qe (show ∀(X:World) (u:Value),Below w7.heap.size w7 X->ql X u Zl.l->Calls Tryz.prog 22 #[u,.slice (some ⟨gl,0,none⟩) Zl.l.length cl] X λe w'=>e= .returned (.bool true)/\Below X.heap.size X w' from λX u hX hu=>by
    have h1:=Qk Zl.l Zl.l (by have:=HOKL.out.small;omega) u (.slice (some ⟨gl,0,none⟩) Zl.l.length cl) X hu (HYR.out X (gm HB7.out hX)).2;rw[gF rfl]at h1;exact h1)
   have zk:=qe (show ∀X,Below w7.heap.size w7 X->Below w7.heap.size w7 X/\X.cell? ⟨yl,1,none⟩=some (.slice (some ⟨gl,0,none⟩) Zl.l.length cl) from λX hX=>⟨hX,(HYL.out X (gm HB7.out hX)).2⟩);clear hB7 hok7 hse7 hzf7 hsn x0 x1 x2 x3 x4 x5 x6 x7 x8 x9 x10 x11 x12 x13 HT2 i4;go_upto_region 22 with fail;obtain⟨-,q0⟩:=zk.out w7 (gJ _ _)
   go_region_held3 (λX=>Below w7.heap.size w7 X/\X.cell? ⟨yl,1,none⟩=some (.slice (some ⟨gl,0,none⟩) Zl.l.length cl))
    (first | assumption | exact zk.out _ (gJ _ _).drew | (go_split_ands;exact zk.out _ (by assumption)))
    (first
     | (go_at_call 61;(with_reducible refine(HS1.out _ (by go_split_ands;assumption)).mono ?_);rintro e wA ⟨rfl,hbA⟩;go_split_ands;have uY:=Below.trans (B:=w7.heap.size) (a:=w7) (by assumption) (hbA.mono (Below.size (by assumption))))
     | (go_at_call 57;(with_reducible refine(HS2.out _ (by go_split_ands;assumption)).mono ?_);rintro e wC ⟨rfl,hbC⟩;go_split_ands;have hbC2:=Below.trans (B:=w7.heap.size) (a:=w7) (by assumption) (hbC.mono (Below.size (by assumption))))
     | (go_at_call 23;(with_reducible refine(HS3.out _ (by go_split_ands;assumption)).mono ?_);rintro e wD ⟨vD,rfl,hbD,hoD⟩;go_split_ands;have hbD2:=Below.trans (B:=w7.heap.size) (a:=w7) (by assumption) (hbD.mono (Below.size (by assumption))))
     | (go_at_call 22;(with_reducible refine(HS4.out _ _ (by go_split_ands;assumption) (qF hoD)).mono ?_);rintro e wE ⟨rfl,hbE⟩;go_split_ands;have hbE2:=Below.trans (B:=w7.heap.size) (a:=w7) (by assumption) (hbE.mono (Below.size (by assumption)))))
   all_goals
    go_wp2_with fail;go_ret;exact⟨rfl,HB7.out.trans (hbE2.mono HB7.out.size)⟩
namespace al
abbrev qf:ByteArray:=⟨#[2,101,120,0]⟩
abbrev soaR (s:Nat):Rec:=⟨⟨#[2,101,120,0]⟩,6,1,300,(⟨#[2,110,115,2,101,120,0,1,104,2,101,120,0,0,0,0]⟩:ByteArray) ++ (⟨#[UInt8.ofNat s]⟩:ByteArray) ++ (⟨#[0,0,0,1,0,0,0,1,0,0,0,1,0,0,0,60]⟩:ByteArray)⟩
abbrev nsR:Rec:=⟨⟨#[2,101,120,0]⟩,2,1,300,⟨#[2,110,115,2,101,120,0]⟩⟩
abbrev aR (k:Nat):Rec:=⟨⟨#[1,97,2,101,120,0]⟩,1,1,60,⟨#[1,2,3,UInt8.ofNat k]⟩⟩
def Y8 (s n:Nat):List Rec:=[soaR s,nsR] ++ (List.range n).map aR
theorem lot_next (s n:Nat):Y8 s (n+1)=Y8 s n ++ [aR n]:=by
 unfold Y8;rw[List.range_succ,List.map_append,List.map_singleton,List.append_assoc]
theorem lot_len (s n:Nat):(Y8 s n).length=n+2:=by unfold Y8;simp
theorem new1:zn.yG qf (Y8 1 40)=none:=by decide +kernel
end al
theorem conv_one7 (X:World)(b n:Nat)(hn:n<256)(h:X.heap[b]? =some (.cells #[.int .u8 (n:Int)] 5 (0,0))):
 (convert 122 9 (.slice (some ⟨b,0,none⟩) 1 1)).run Tryz.prog X= .ok (.string ⟨#[UInt8.ofNat n]⟩) X:=by
 refine run_convert_bytes_back (P:=Tryz.prog) X 122 9 5 ⟨b,0,none⟩ 1 [UInt8.ofNat n] Tryz.underlying122 Tryz.underlying5 Tryz.underlying9 (λj hj=>?_);obtain rfl:j=0:=by simpa using hj
 have h8:((UInt8.ofNat n).toNat:Int)=(n:Int):=by rw[UInt8.toNat_ofNat'];omega
 rw[show(⟨b,0,none⟩:Addr).add 0=⟨b,0,none⟩ from rfl,qg h];simp only[Ho,h8];rfl
theorem conv_four7 (X:World)(b n:Nat)(hn:n<256)(h:X.heap[b]? =some (.cells #[.int .u8 1,.int .u8 2,.int .u8 3,.int .u8 (n:Int)] 5 (0,0))):
 (convert 122 9 (.slice (some ⟨b,0,none⟩) 4 4)).run Tryz.prog X= .ok (.string ⟨#[1,2,3,UInt8.ofNat n]⟩) X:=by
 refine run_convert_bytes_back (P:=Tryz.prog) X 122 9 5 ⟨b,0,none⟩ 4 [1,2,3,UInt8.ofNat n] Tryz.underlying122 Tryz.underlying5 Tryz.underlying9 (λj hj=>?_);have hj4:j<4:=hj;have hjj:j=0\/j=1\/j=2\/j=3:=by omega
 have h8:((UInt8.ofNat n).toNat:Int)=(n:Int):=by rw[UInt8.toNat_ofNat'];omega
 rcases hjj with rfl | rfl | rfl | rfl
 ·rw[show(⟨b,0,none⟩:Addr).add 0=⟨b,0,none⟩ from rfl,qg h];rfl
 ·rw[show(⟨b,0,none⟩:Addr).add 1=⟨b,1,none⟩ from rfl,qg h];rfl
 ·rw[show(⟨b,0,none⟩:Addr).add 2=⟨b,2,none⟩ from rfl,qg h];rfl
 ·rw[show(⟨b,0,none⟩:Addr).add 3=⟨b,3,none⟩ from rfl,qg h];simp only[List.getElem_cons_succ,Ho,h8];rfl
theorem lot_size:(Tryz.prog.info? 42).map (·.size)=some 2:=by kernel_rfl
theorem lot_ret {fn:Func}{p:Tmp}(hf:fn.results= #[.cell p 42]){R:Ending->World->Prop}{a:Act}{w:World}{g:Nat}{v0 v1:Value}(hp:a.tmps.getD p undef= .pointer (some ⟨g,0,none⟩))
 (hd:a.defers= []) (hg:w.heap[g]? =some (.cells #[v0,v1] 42 (0,0))) (hR:R (.returned (.agg #[v0,v1])) w):bodyPost Tryz.prog fn R .ret a w:=
 bodyPost_ret_by (results_cell_row hf _ w g _ _ _ _ hp hg Tryz.underlying42 rfl lot_size) hd hR
theorem Xi (s n:Nat)(hs:s<256)(hn:n<=200)(w:World):
 Calls Tryz.prog 32 #[.int .u8 (s:Int),.int .i64 (n:Int)] w λe w'=>∃rv,e= .returned (.agg #[.string al.qf,rv])/\Below w.heap.size w w'/\w'.ownsRow w.heap.size 80 5 rv (al.Y8 s n).length (qw (al.Y8 s n)):=by
 obtain⟨w1,hw1⟩:=yM (w.alloc (.cells #[.string ⟨#[]⟩,.slice none 0 0] 42));obtain⟨b4,hb4⟩:=yM w.heap.size;have hB1:Below w.heap.size w w1:=by rw[hw1];exact(gJ _ _).alloc (gI _) _
 have hn1:w1.heap[b4]? =some (.cells #[.string ⟨#[]⟩,.slice none 0 0] 42 (0,0)):=by rw[hw1,hb4];exact qz rfl
 obtain⟨S,hS⟩:=yM ((s:Int):Int);obtain⟨w2,hw2⟩:=yM (w1.alloc (.cells #[.int .u8 S] 5));have hB2:Below w1.heap.size w1 w2:=by rw[hw2];exact(gJ _ _).alloc (gI _) _
 have hc2:(convert 122 9 (.slice (some ⟨w1.heap.size,0,none⟩) 1 1)).run Tryz.prog (w1.alloc (.cells #[.int .u8 S] 5))= .ok (.string ⟨#[UInt8.ofNat s]⟩) (w1.alloc (.cells #[.int .u8 S] 5)):=by
  rw[hS];exact conv_one7 _ _ s hs (qz rfl)
 obtain⟨w3,hw3⟩:=yM (w2.alloc (.cells #[.string ⟨#[2,101,120,0]⟩,.int .i64 6,.int .i64 1,.int .i64 300,.string ((⟨#[2,110,115,2,101,120,0,1,104,2,101,120,0,0,0,0]⟩:ByteArray) ++ (⟨#[UInt8.ofNat s]⟩:ByteArray) ++ (⟨#[0,0,0,1,0,0,0,1,0,0,0,1,0,0,0,60]⟩:ByteArray)),.string ⟨#[2,101,120,0]⟩,.int .i64 2,.int .i64 1,.int .i64 300,.string ⟨#[2,110,115,2,101,120,0]⟩] 80));have hB3:Below w2.heap.size w2 w3:=by rw[hw3];exact(gJ _ _).alloc (gI _) _
 have hO3:w3.ownsRow w1.heap.size 80 5 (.slice (some ⟨w2.heap.size,0,none⟩) 2 2) (al.Y8 s 0).length (qw (al.Y8 s 0)):=by
  rw[hw3];exact⟨rfl,.inr ⟨w2.heap.size,2,_,rfl,hB2.size,qz rfl,gI _,by unfold maxLen;omega,rfl,rfl⟩⟩
 obtain⟨g3,hg3⟩:=yM w2.heap.size;rw[<- hg3]at hO3;have HW1:=qe hw1;have HB4:=qe hb4;have HN1:=qe hn1;have HW2:=qe hw2;have HW3:=qe hw3;have HG3:=qe (show g3=w1.heap.size+1 by rw[hg3,hw2];simp);have HO3:=qe hO3;have HB1:=qe hB1;have QH:=qe (gm hB2 hB3);have HNN:=qe hn;have HLB:=qe (show b4<w1.heap.size from(Array.getElem?_eq_some_iff.1 hn1).1);rw[<- hS];clear hw1 hb4 hn1 hw2 hw3 hg3 hO3 hB1 hB2 hB3 hs hS
 go_enter Tryz.func32,Tryz.ntmps32
 go_upto_region 1 with fail;rw[<- HW1.out,<- HB4.out];go_upto_region 3 with fail;rw[<- HW2.out,<- HW3.out,<- HG3.out];clear hc2;go_wp2_with fail
 go_loopw [7,6] (λkv av wr=>∃k:Nat,k<=n/\kv= .int .i64 (k:Int)/\Hid (wr.ownsRow w1.heap.size 80 5 av (al.Y8 s k).length (qw (al.Y8 s k)))/\Hid (Below w1.heap.size w1 wr)) (λkv _ _=>n-(intOf kv).toNat)
 case atStart=>exact⟨0,gU _,rfl,HO3,QH⟩
 case round=>
  obtain⟨k,hk,rfl,HO,HB⟩:=hrel;obtain⟨wr4,hw4⟩:=yM wr;subst hw4;obtain⟨va,vc,rfl,-⟩:=qj HO.out;obtain⟨P,hP⟩:=yM (al.Y8 s k);have HPL:=qe (show P.length=k+2 by rw[hP,al.lot_len]);have HPP:=qe hP;rw[<- hP]at HO ⊢;by_cases hlt:k<n
  ·have hki:(k:Int)<(n:Int):=by omega
   obtain⟨K,hK⟩:=yM ((k:Int):Int);have ek:IntKind.i64.wrap (K+1)=K+1:=Hg _ (by have:=HNN.out;omega);have ew:IntKind.u8.wrap K=K:=by rw[IntKind.wrap_u8];have:=HNN.out;omega
   rw[<- hK]at hki ⊢;have HNX:=qe (show al.Y8 s (k+1)=P ++ [al.aR k] by rw[al.lot_next,hP]);obtain⟨w5,hw5⟩:=yM (wr4.alloc (.cells #[.int .u8 1,.int .u8 2,.int .u8 3,.int .u8 K] 5));have hB5:Below wr4.heap.size wr4 w5:=by rw[hw5];exact(gJ _ _).alloc (gI _) _
   have hc5:(convert 122 9 (.slice (some ⟨wr4.heap.size,0,none⟩) 4 4)).run Tryz.prog (wr4.alloc (.cells #[.int .u8 1,.int .u8 2,.int .u8 3,.int .u8 K] 5))= .ok (.string ⟨#[1,2,3,UInt8.ofNat k]⟩) (wr4.alloc (.cells #[.int .u8 1,.int .u8 2,.int .u8 3,.int .u8 K] 5)):=by
    rw[hK];exact conv_four7 _ _ k (by have:=HNN.out;omega) (qz rfl)
   obtain⟨w6,hw6⟩:=yM (w5.alloc (.cells (recC (al.aR k)).toArray 80));obtain⟨hB6,-,-⟩:=zf w5 w6 (al.aR k) hw6;obtain⟨g6,hg6⟩:=yM w5.heap.size;have hB16:=HB.out.trans ((gm hB5 hB6).mono HB.out.size);have hon:=kL (base:=w1.heap.size) (al.aR k) hw6 (gm HB.out hB5).size;rw[<- hg6]at hon;have HON:=qe hon;have HO6:=qe (ownsRow_below HO.out (gm hB5 hB6));have HW5:=qe hw5;have HW6:=qe hw6;have HG6:=qe (show g6=wr4.heap.size+1 by rw[hg6,hw5];simp);have Vh:=qe hB16;have HKK:=qe hK;have HLT:=qe hlt;clear hw5 hB5 hw6 hB6 hg6 hB16 hon hP hK hlt;go_wp2_with (at_builtin;rw[<- HW5.out,<- HW6.out,<- HG6.out];refine zO rfl _ _ rfl w1.heap.size _ _ _ rfl HO6.out _ (kC HON.out) _ (qF HON.out) rfl (by have:=HPL.out;have:=HNN.out;simp only[gT];omega) Vh.out.size ?_);intro v8 w8 hown8 hg8 hn8;have HB18:=qe (Vh.out.grown hg8 Vh.out.size (λj hj=>(HO6.out.lt j hj).1));have HO8:=qe (jX rfl rfl hown8);clear hown8 hg8 hn8 hc5;go_wp2_with fail
   go_roundw
   case rel=>exact⟨k+1,by have:=HLT.out;omega,by rw[HKK.out];rfl,by rw[HNX.out];exact HO8,HB18⟩
   case measure=>have:=HLT.out;have:=HKK.out;simp[intOf];omega
  ·obtain rfl:k=n:=by omega
   have hki:¬((k:Int)<(k:Int)):=by omega
   have h4:=(HB.out.block b4 HLB.out).trans HN1.out;have c0:wr4.cell? ⟨b4,0,none⟩=some (.string ⟨#[]⟩):=by rw[qg h4];rfl
   have c1:wr4.cell? ⟨b4,1,none⟩=some (.slice none 0 0):=by rw[qg h4];rfl
   have f0:=qB h4 0;have f1:=qB h4 1;have hg9:wr4.grownBy ((wr4.setCell ⟨b4,0,none⟩ (.string ⟨#[2,101,120,0]⟩)).setCell ⟨b4,1,none⟩ (.slice va P.length vc)) (some b4):=(grownBy_setCell wr4 ⟨b4,0,none⟩ _).trans (grownBy_setCell _ ⟨b4,1,none⟩ _);have HFI:=qe (show((wr4.setCell ⟨b4,0,none⟩ (.string ⟨#[2,101,120,0]⟩)).setCell ⟨b4,1,none⟩ (.slice va P.length vc)).heap[b4]? =some (.cells #[.string ⟨#[2,101,120,0]⟩,.slice va P.length vc] 42 (0,0)) from qC (qC h4 0 _) 1 _);have HOW:=qe (qm HO.out λb hb=>hg9.block b (HO.out.lt b hb).2 (by have:=(HO.out.lt b hb).1;have:=HLB.out;simp only[ne_eq,gM];omega));have HBF:=qe ((gm HB1.out HB.out).grown hg9 (gm HB1.out HB.out).size (λj hj=>by simp only[gM]at hj;rw[<- hj,HB4.out];exact gI _));clear h4 hg9 hP hk hlt;go_wp2_with fail;refine lot_ret rfl rfl rfl HFI.out ⟨_,rfl,HBF.out,?_⟩;rw[<- HPP.out];exact qK HOW.out HB1.out.size
namespace al
theorem size1:(⟨#[2,101,120,0]⟩:ByteArray).size<=1099511627776:=by decide
theorem size2:(⟨#[1,97,2,101,120,0]⟩:ByteArray).size<=1099511627776:=by decide
theorem lot_wf (s n:Nat):∀r∈Y8 s n,(Lit.int .i64 r.typ).wf=true/\r.owner.size<=1099511627776:=by
 intro r hr;unfold Y8 at hr;simp only[Hl,List.mem_cons,List.not_mem_nil,or_false,List.mem_map]at hr;rcases hr with(rfl | rfl) | ⟨k,-,rfl⟩
 ·exact⟨rfl,size1⟩
 ·exact⟨rfl,size1⟩
 ·exact⟨rfl,size2⟩
end al
theorem risen_two {H:List tr.Zn}(hc:tr.Chain H)(h2:H.length<=2):tr.vo H=true:=tr.risen_all λk j hk hj=>by
 obtain rfl:k=1:=by omega
 obtain rfl:j=0:=by omega
 exact hc 0 hk
theorem alive_any (w:World)(het:ErrT w):Calls Tryz.prog 7 #[] w λe w'=>e= .returned (.bool true)/\Below w.heap.size w w':=by
 have HET:=qe het;clear het
 go_enter Tryz.func7,Tryz.ntmps7
 go_wp2_with fail;refine(Xi 1 40 (by decide) (by decide) w).mono ?_;rintro e w1 ⟨r1,rfl,hB1,ho1⟩;have HB1:=qe hB1;have HO1:=qe ho1;obtain⟨a1,c1,rfl,-⟩:=qj ho1;obtain⟨l1,hl1⟩:=yM (al.Y8 1 40);rw[<- hl1]at HO1 ⊢;have HL1:=qe hl1;clear hB1 ho1 hl1;go_wp2_with fail;refine(Xi 2 41 (by decide) (by decide) w1).mono ?_;rintro e w2 ⟨r2,rfl,hB2,ho2⟩;have HB2:=qe (gm HB1.out hB2);have HO2:=qe ho2;have HO12:=qe (ownsRow_below HO1.out hB2);obtain⟨a2,c2,rfl,-⟩:=qj ho2;obtain⟨l2,hl2⟩:=yM (al.Y8 2 41);rw[<- hl2]at HO2 ⊢;have HL2:=qe hl2;clear hB2 ho2 hl2 HO1;obtain⟨m1,hm1⟩:=yM l1.length;obtain⟨m2,hm2⟩:=yM l2.length;rw[<- hm1,<- hm2];obtain⟨w3,hw3⟩:=yM (w2.alloc (.cells #[.string ⟨#[2,101,120,0]⟩,.slice a1 m1 c1,.string ⟨#[2,101,120,0]⟩,.slice a2 m2 c2] 42));obtain⟨g3,hg3⟩:=yM w2.heap.size;have hB3:Below w2.heap.size w2 w3:=by rw[hw3];exact(gJ _ _).alloc (gI _) _
 have hn3:w3.heap[g3]? =some (.cells #[.string ⟨#[2,101,120,0]⟩,.slice a1 m1 c1,.string ⟨#[2,101,120,0]⟩,.slice a2 m2 c2] 42 (0,0)):=by rw[hw3,hg3];exact qz rfl
 have hr1:ql w3 (.slice a1 m1 c1) l1:=by rw[hm1];exact(qF HO12.out).below hB3
 have hr2:ql w3 (.slice a2 m2 c2) l2:=by rw[hm2];exact(qF HO2.out).below hB3
 have s1:yn (.slice a1 m1 c1):=by rw[hm1];exact kC HO12.out
 have s2:yn (.slice a2 m2 c2):=by rw[hm2];exact kC HO2.out
 have hlots:LotsAt w3 (.slice (some ⟨g3,0,none⟩) 2 2) [⟨al.qf,l1⟩,⟨al.qf,l2⟩]:=by
  refine⟨some ⟨g3,0,none⟩,2,rfl,gI _,λk hk=>?_⟩;have hk2:k=0\/k=1:=by simp only[Ha,List.length_nil]at hk;omega
  rcases hk2 with rfl | rfl
  ·exact⟨g3,0,.slice a1 m1 c1,rfl,(Array.getElem?_eq_some_iff.1 hn3).1,by rw[qg hn3];rfl,by rw[qg hn3];rfl,hr1,s1,al.size1,λr hr=>(al.lot_wf 1 40 r (by rw[<- HL1.out];exact hr)).1,λr hr=>(al.lot_wf 1 40 r (by rw[<- HL1.out];exact hr)).2⟩
  ·exact⟨g3,0,.slice a2 m2 c2,rfl,(Array.getElem?_eq_some_iff.1 hn3).1,by rw[qg hn3];rfl,by rw[qg hn3];rfl,hr2,s2,al.size1,λr hr=>(al.lot_wf 2 41 r (by rw[<- HL2.out];exact hr)).1,λr hr=>(al.lot_wf 2 41 r (by rw[<- HL2.out];exact hr)).2⟩
 have HH:=qe (history_any [⟨al.qf,l1⟩,⟨al.qf,l2⟩] (by simp) _ w3 hlots);have HB3:=qe (gm HB2.out hB3);have HW3:=qe hw3;have HG3:=qe hg3;clear hm1 hm2 hw3 hg3 hB3 hn3 hr1 hr2 s1 s2 hlots;go_wp2_with fail;rw[<- HW3.out,<- HG3.out];refine HH.out.mono ?_;rintro e w4 ⟨H,hv,gv,rfl,hHN,hne,hB4,hP⟩;have hHne:H≠[]:=hne ⟨al.qf,l1⟩ (List.mem_cons_self ..) (by show zn.yG al.qf l1=none;rw[HL1.out];exact al.new1);rcases hP with⟨rfl,-,-⟩|⟨hH,hch,h8,h,zs,ys,rfl,lz,ly,hhi,hzs,hr,hrz⟩
 ·exact absurd rfl hHne
 have hris:=risen_two hch hHN;have HB4:=qe (gm HB3.out hB4);obtain⟨n,hn⟩:=yM ys.length;have hpos:=hH.ne;obtain⟨g,off,cap,rfl,hcap,hgl,cz⟩:=id hr;obtain⟨y0,hy0⟩:=yM (ys[0]'(by omega))
 have HC:=qe (show ∀(X:World) (hv:Value),Below w4.heap.size w4 X->(hv= .pointer none\/(tr.vo H=true/\∃f,∃hf:f<ys.length,hv=qX ys[f]))->Calls Tryz.prog 26 #[.pointer (some ⟨h,0,none⟩),.slice (some ⟨g,off,none⟩) n cap,hv,.int .i64 0,.int .i64 0] X λe w'=>e= .returned (.bool true)/\Below X.heap.size X w' from λX hv hX hhas=>by
  rw[hn];exact copied_any _ H h zs ys _ hH h8 lz ly 0 0 (by omega) (by omega) X (HET.out.below (gm HB4.out hX)) (hhi.below hX) (hzs.below hX) (hr.below hX) (hrz.below hX) hv hhas)
 have HY:=qe (show ∀X,Below w4.heap.size w4 X->X.cell? ⟨g,off,none⟩=some (qX y0) from λX hX=>by
  rw[hy0];exact(hX.cell (p:=⟨g,off,none⟩) hgl).trans (cz 0 (by omega)))
 have HY0:=qe (show tr.vo H=true/\∃f,∃hf:f<ys.length,qX y0=qX ys[f] from⟨hris,0,by omega,by rw[hy0]⟩);have e0:0<n:=by omega
 have e1:(0:Int)<(n:Int):=by omega
 rw[<- hn];clear hHN hne hB4 hHne hH hch h8 lz ly hhi hzs hr hrz hris hn hpos hcap hgl cz hy0 HH;go_wp2_with fail;refine(HC.out w4 _ (gJ _ _) (.inl rfl)).mono ?_;rintro e w5 ⟨rfl,hB5⟩;have jI:=qe hB5;have HB5:=qe (gm HB4.out hB5);have c0:=HY.out w5 hB5;clear hB5;go_wp2_with fail;refine(HC.out w5 _ jI.out (.inr HY0.out)).mono ?_;rintro e w6 ⟨rfl,hB6⟩;have HB6:=qe (gm HB5.out hB6);clear hB6 c0;go_wp2_with fail;go_ret;exact⟨rfl,HB6.out⟩
end Go.Proofs.YtpcmilhjpmlbpaaGreatDoor
