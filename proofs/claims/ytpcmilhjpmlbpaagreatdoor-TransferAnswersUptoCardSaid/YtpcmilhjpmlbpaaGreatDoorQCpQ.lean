import Derived.Test.YtpcmilhjpmlbpaaGreatDoorQCpW
import Derived.Test.YtpcmilhjpmlbpaaGreatDoorQCpI
import Derived.Test.YtpcmilhjpmlbpaaGreatDoorQCpD
set_option maxRecDepth 100000
set_option maxHeartbeats 16000000
namespace Go.Proofs.YtpcmilhjpmlbpaaGreatDoor
open Go.RowKit Go.Shelf nm od
theorem kZ.row {base:Nat}{w:World}{v:Value}{h:Hd}{qs:List Qn}{L:List (List Rec)}(hA:kZ base w v h qs L)(hq:qs.length≤1000000000000)(hl:∀p∈L,p.length≤1000000000000):jB w v (tr.Q3 h qs L):=by
 obtain⟨P,h1,h2,h3,-,-⟩:=hA;exact msgs_row h1 h2 (fun k hk=>owns_qns (h3 k hk (by omega)).1) (fun k hk hk2=>qD (h3 k hk hk2).2) hq hl
theorem jB.front {w:World}{ao:Option Addr}{n cap:Nat}{l:List Msg}(h:jB w (.slice ao n cap) l){k:Nat}(hk:k≤l.length):jB w (.slice ao k cap) (l.take k):=by
 obtain⟨a,c,hv,hc,h3⟩:=h;simp only[Value.slice.injEq]at hv;obtain⟨rfl,rfl,rfl⟩:=hv;have hl:(l.take k).length=k:=by rw[List.length_take];omega
 refine⟨_,_,by rw[hl],by omega,fun j hj=>?_⟩;have h4:=h3 j (by omega);rw[List.getElem_take];exact h4
theorem X3 {l:List Msg}(h:l.length≤130)(h2:∀m∈l,m.an.length≤16):(tr.rowsOf l).length≤10000000:=by
 have:∀(l:List Msg),(∀m∈l,m.an.length≤16)→(tr.rowsOf l).length≤l.length*16:=fun l=>by
  induction l with
  | nil=>intro _;simp[tr.rowsOf]
  | cons m l ih=>
    intro hm;have h3:=ih fun x hx=>hm x (List.mem_cons_of_mem _ hx);have h4:=hm m (List.mem_cons_self ..);unfold tr.rowsOf at h3 ⊢;rw[List.flatMap_cons,List.length_append,List.length_cons];omega
 have h3:=this l h2;omega
theorem take_short {l:List Msg}(h:l.length≤130)(h2:∀m∈l,m.an.length≤16)(k:Nat):(l.take k).length≤1000000000∧(tr.rowsOf (l.take k)).length≤10000000:=by
 have h3:(l.take k).length≤130:=by rw[List.length_take];omega
 exact⟨by omega,X3 h3 fun m hm=>h2 m (List.mem_of_mem_take hm)⟩
theorem ser_fold {a b:ByteArray}{l:List Rec}(h:qx a=qx b):tr.yA ⟨a,l⟩=tr.yA ⟨b,l⟩:=by
 have h2:tr.ze ⟨a,l⟩=tr.ze ⟨b,l⟩:=by unfold tr.ze;simp only;rw[h]
 unfold tr.yA;rw[h2]
def UN (H:List tr.Zn)(idn:Int)(zv:Value)(Zo:Option tr.Zn)(n:ByteArray)(t:Int)(au:List Rec)(w:World):Prop:=ZHas w zv Zo∧tr.Yx H Zo (tr.QL n t idn au)∧au.length≤1∧
 ∀X,Below w.heap.size w X→Calls Tryz.prog 17 #[zv,.string (tr.qN H).ap,.int .i64 idn] X fun e w'=>AskMsg n t idn au X e w'
theorem copyHas_none {H:List tr.Zn}{w:World}(hH:tr.KV H){idn:Int}(hid:0≤idn∧idn≤65535):UN H idn (.pointer none) none (tr.qN H).ap 252 [] w:=
 ⟨.inl ⟨rfl,rfl⟩,tr.copy_none hH hid,by simp,fun X _=>(ask_nil (tr.qN H).ap idn X).mono fun e w' h=>by
  have h0:tr.YJ (tr.qN H).ap idn=0:=by unfold tr.YJ tr.idI;rw[if_neg (by rw[hH.last.ap];simp),if_neg (by omega)]
  rcases h with⟨h1,-⟩|⟨-,h⟩
  ·exact absurd h0 h1
  ·exact h⟩
theorem copyHas_some {H:List tr.Zn}{w:World}{z:Nat}(hH:tr.KV H)(hr:tr.ve H=true){idn:Int}(hid:0≤idn∧idn≤65535){f:Nat}(hf:f<H.length)(hz:jA w w.heap.size z (tr.q8 H f).ap (tr.q8 H f).l):UN H idn (qW z) (some (tr.q8 H f)) (tr.q8 H f).ap 251 [tr.ze (tr.q8 H f)] w:=
 ⟨.inr ⟨_,z,rfl,rfl,hH.ok f hf,hz⟩,tr.copy_some hH hr hid hf,by simp,fun X hX=>(ask_zone X.heap.size z _ (hH.ok f hf) (tr.qN H).ap idn X (hz.kept hX).top).mono fun e w' h=>by
  have h0:tr.idI idn=0:=by unfold tr.idI;rw[if_neg (by omega)]
  rcases h with⟨h1,-⟩|⟨-,h⟩
  ·exact absurd h0 h1
  ·exact h⟩
theorem copy_full {H:List tr.Zn}{Zo:Option tr.Zn}{q:Msg}{xs:List Msg}{zv:Value}{w w':World}{e:Ending}(hv:tr.Ok (tr.qN H))(hs:(tr.qN H).l.Pairwise (fun a b=>zn.zZ a b≤0))(hz:ZHas w zv Zo)
 (hc:(tr.uf Zo q xs= .same∧Zo=some (tr.qN H))∨∃ap l,tr.uf Zo q xs= .make ap l∧l.Perm (tr.qN H).l∧qo ap=true∧qx ap=qx (tr.qN H).ap) (hp:Qr (tr.uf Zo q xs) zv w e w'):
 ∃z ap,e= .returned (.tuple #[qW z,.int .i64 0])∧Below w.heap.size w w'∧tr.Ok ⟨ap,(tr.qN H).l⟩∧tr.yA ⟨ap,(tr.qN H).l⟩=tr.yA (tr.qN H)∧jA w' w'.heap.size z ap (tr.qN H).l:=by
 obtain⟨hB,hp⟩:=hp;rcases hc with⟨h1,h2⟩|⟨ap,l,h1,hperm,hap,hfo⟩
 ·rw[h1]at hp;rcases hz with⟨h3,-⟩|⟨A,z,h3,h4,h5,h6⟩
  ·rw[h2]at h3;cases h3
  ·rw[h2]at h3;obtain rfl:=Option.some.inj h3;refine⟨z,(tr.qN H).ap,?_,hB,hv,rfl,(h6.kept hB).top⟩;rw[← h4];exact hp
 ·rw[h1]at hp;have hvl:zn.Valid ap (tr.qN H).l:=zn.valid_fold hv hap hfo.symm;have hvp:zn.Valid ap l:=zn.valid_perm hvl hperm.symm;rcases hp with⟨-,top,z,L,hso,rfl,hzf⟩|⟨k,c,hne,-⟩
  ·have hL:L=(tr.qN H).l:=hso.eq ⟨hperm.symm,hs⟩ hvp.named (zn.XR hvp);subst hL;exact⟨z,ap,rfl,hB,hvl,ser_fold hfo,hzf.top⟩
  ·rw[zn.KI hvp]at hne;cases hne
theorem copied_any (base:Nat)(H:List tr.Zn)(h:Nat)(zs ys:List Nat)(gv:Value)(hH:tr.KV H)(h8:H.length≤8)(hlz:zs.length=H.length)(hly:ys.length=H.length)(idn cut:Int)(hid:0≤idn∧idn≤65535)(hct:-9223372036854775808≤cut∧cut≤9223372036854775807)
 (w:World) (het:ErrT w) (hh:xD w base h zs) (hzs:Kt w zs H) (hr:uW w gv ys) (hrz:Zg w ys H) (hv:Value) (hhas:hv= .pointer none∨(tr.ve H=true∧∃f,∃hf:f<ys.length,hv=qW ys[f])):
 Calls Tryz.prog 26 #[.pointer (some ⟨h,0,none⟩),gv,hv,.int .i64 idn,.int .i64 cut] w fun e w'=>e= .returned (.bool true)∧Below w.heap.size w w':=by
 obtain⟨hp,rfl⟩:∃p,hv= .pointer p:=by
  rcases hhas with h1 | ⟨-,f,hf,h1⟩
  ·exact⟨_,h1⟩
  ·exact⟨_,h1⟩
 obtain⟨n,hn⟩:∃n,n=ys.length:=⟨_,rfl⟩;have hne:=hH.ne;obtain⟨n1,hn1⟩:∃n1,n1=n-1:=⟨_,rfl⟩;have hlast:tr.qN H=H[n1]'(by omega):=by
  rw[← tr.uL (by omega)];unfold tr.qN
  congr 1
  omega
 obtain⟨Zl,hZl⟩:∃Z,Z=tr.qN H:=⟨_,rfl⟩;obtain⟨yl,hyl⟩:∃y,y=ys[n1]'(by omega):=⟨_,rfl⟩;have hzl:=hrz.2 n1 (by omega) (by omega);rw[← hlast,← hyl,← hZl]at hzl;obtain⟨okl,-,ryl⟩:=hzl;have hsl:Zl.l.Pairwise (fun a b=>zn.zZ a b≤0):=by
  obtain⟨-,top,hzf⟩:=hzs.2 n1 (by omega) (by omega);rw[← hlast,← hZl]at hzf;exact hzf.sorted
 obtain⟨g,off,cap,rfl,hcap,hgl,cz⟩:=id hr;have c1:=cz n1 (by omega);rw[← hyl]at c1;obtain⟨gl,cl,hyc,hyr⟩:=id ryl;have HYL:=qe (show ∀X,Below w.heap.size w X→X.cell? ⟨yl,0,none⟩=some (.string Zl.ap)∧X.cell? ⟨yl,1,none⟩=some (.slice (some ⟨gl,0,none⟩) Zl.l.length cl) from fun X hX=>by
  have h1:=(hX.block yl (yo hyc)).trans hyc;exact⟨by rw[qh h1];rfl,by rw[qh h1];rfl⟩)
 have HYR:=qe (show ∀X,Below w.heap.size w X→xA X yl Zl.ap Zl.l∧qm X (.slice (some ⟨gl,0,none⟩) Zl.l.length cl) Zl.l from fun X hX=>⟨ryl.below hX,hyr.below hX⟩);have e1:(n:Int)-1=(n1:Int):=by omega
 have e2:IntKind.i64.wrap (n1:Int)=(n1:Int):=IntWalk.i64_in _ (by omega);have e3:(n1:Int)<(n:Int):=by omega
 have e4:n1<n:=by omega
 have HHAS:=qe (show hp=none∨(∃f,∃hf:f<H.length,∃y ga ca,tr.ve H=true∧hp=some ⟨y,0,none⟩∧(tr.q8 H f).l.Pairwise (fun a b=>zn.zZ a b≤0)∧w.heap[y]? =some (.cells #[.string (tr.q8 H f).ap,.slice (some ⟨ga,0,none⟩) (tr.q8 H f).l.length ca] 58 (0,0))∧qm w (.slice (some ⟨ga,0,none⟩) (tr.q8 H f).l.length ca) (tr.q8 H f).l) from by
  rcases hhas with h1 | ⟨h1,f,hf,h0⟩
  ·simp only[Value.pointer.injEq]at h1;exact .inl h1
  ·simp only[Value.pointer.injEq]at h0;subst h0;right;have hfH:f<H.length:=by omega
   have h2:=hrz.2 f hf hfH;obtain⟨-,top,h3⟩:=hzs.2 f (by omega) hfH;rw[← tr.uL hfH]at h2 h3;obtain⟨-,-,ga,ca,h4,h5⟩:=h2;exact⟨f,hfH,_,ga,ca,h1,rfl,h3.sorted,h4,h5⟩)
 rw[← hn];have HH:=qe hh;have HZS:=qe hzs;have HHI:=qe hH;have H8:=qe h8;have HLZ:=qe hlz;have HID:=qe hid;have HCT:=qe hct;have HET:=qe het;have HZL:=qe hZl;have HOKL:=qe okl;have HSL:=qe hsl;have HPOS:=qe (show 0<zs.length by omega);clear hh hzs hH h8 hlz hly hid hct het hr hrz hhas hlast hZl hyl okl ryl hsl hcap hgl cz hyc hyr hn hn1 hne
 go_enter Tryz.func26,Tryz.ntmps26
 go_upto_if 28 with fail
 clear c1 e1 e2 e3 e4
 go_cut [12] (fun zv wx=>∃zp Zo nn t au,zv= .pointer zp∧Hid (UN H idn (.pointer zp) Zo nn t au wx)∧Hid (Below w.heap.size w wx))
 case first=>
  rcases HHAS.out with rfl | ⟨f,hf,ya,ga,ca,hris,rfl,hso,hya,hra⟩
  ·have HC:=qe (copyHas_none (w:=w) HHI.out HID.out);go_wp2_with fail;go_meet;exact⟨_,_,_,_,_,rfl,HC,qe (Below.refl _ _)⟩
  ·obtain⟨A,hA⟩:∃A,A=tr.q8 H f:=⟨_,rfl⟩;have okA:tr.Ok A:=by rw[hA];exact HHI.out.ok f hf
   have HC:=qe (show ∀(X:World) (z:Nat),jA X X.heap.size z A.ap A.l→UN H idn (qW z) (some A) A.ap 251 [tr.ze A] X from fun X z hz=>by
    rw[hA]at hz ⊢;exact copyHas_some HHI.out hris HID.out hf hz)
   rw[← hA]at hso hya hra;have HNW:=qe (show ∀X,Below w.heap.size w X→Calls Tryz.prog 45 #[.string A.ap,.slice (some ⟨ga,0,none⟩) A.l.length ca] X fun e w'=>∃z r,e= .returned (.tuple #[qW z,r,.int .i64 0])∧Below X.heap.size X w'∧UN H idn (qW z) (some A) A.ap 251 [tr.ze A] w' from fun X hX=>
    (new7_any A.ap A.l (fun r hr=>wf_zone okA hr) _ (.inr ⟨_,_,_,rfl⟩) X (hra.below hX)).mono fun e w' hp=>by
     obtain⟨hB1,z,L,_,hs,rfl,hzf⟩:=Us hp (zn.KI okA);have hL:L=A.l:=hs.eq ⟨List.Perm.refl _,hso⟩ okA.named (zn.XR okA);subst hL;exact⟨z,_,rfl,hB1,HC.out w' z hzf.top⟩)
   have zD:=qe (show ∀X,Below w.heap.size w X→Below w.heap.size w X∧X.cell? ⟨ya,0,none⟩=some (.string A.ap)∧X.cell? ⟨ya,1,none⟩=some (.slice (some ⟨ga,0,none⟩) A.l.length ca) from fun X hX=>by
    have h1:=(hX.block ya (yo hya)).trans hya;exact⟨hX,by rw[qh h1];rfl,by rw[qh h1];rfl⟩)
   clear hA okA hris hso hya hra hf;go_upto_region 4 with fail;obtain⟨-,a0,a1⟩:=zD.out w (Below.refl _ _)
   go_region_held3 (fun X=>Below w.heap.size w X∧X.cell? ⟨ya,0,none⟩=some (.string A.ap)∧X.cell? ⟨ya,1,none⟩=some (.slice (some ⟨ga,0,none⟩) A.l.length ca))
    (first | assumption | exact zD.out _ (Below.refl _ _).drew | exact zD.out _ hbN2 | (go_split_ands;exact zD.out _ (by assumption)))
    (first | (go_at_call 45;(with_reducible refine(HNW.out _ (by go_split_ands;assumption)).mono ?_);rintro e wN ⟨zN,rN,rfl,hbN,hcN⟩;go_split_ands;have hbN2:=Below.trans (B:=w.heap.size) (a:=w) (by assumption) (hbN.mono (Below.size (by assumption)));have HCN:=qe hcN;have HBN:=qe hbN2;clear hcN))
   all_goals
    go_wp2_with fail;go_meet;exact⟨_,_,_,_,_,rfl,HCN,HBN⟩
 obtain⟨zp,Zo,nn,t,au,rfl,HCH,HB1⟩:=hcut;obtain⟨w1,hw1⟩:∃X:World,X=wc:=⟨_,rfl⟩;subst hw1;obtain⟨y0,-⟩:=HYL.out w1 HB1.out;have HASK:=qe (show Calls Tryz.prog 17 #[.pointer zp,.string Zl.ap,.int .i64 idn] w1 fun e w'=>AskMsg nn t idn au w1 e w' from by rw[HZL.out];exact HCH.out.2.2.2 w1 (Below.refl _ _));go_wp2_with fail;refine HASK.out.mono ?_;rintro e w2 ⟨gq,u,rfl,hB2,hq2,hu2,hf2⟩;have HB2:=qe (HB1.out.trans (hB2.mono HB1.out.size));have xW:=qe hB2;obtain⟨ua,uc,rfl,-⟩:=id hu2;obtain⟨un,hun⟩:∃m,m=au.length:=⟨_,rfl⟩;rw[← hun]at hu2 hf2 ⊢;have HUN:=qe hun;clear hun;obtain⟨w3,hw3⟩:∃X,X=w2.alloc (.cells (yG (hdI idn) (.slice (some ⟨gq,0,none⟩) 1 1) (.slice none 0 0) (.slice ua un uc) (.slice none 0 0)).toArray 33):=⟨_,rfl⟩;obtain⟨hB3,hs3,hm3⟩:=zC hw3;obtain⟨bm,hbm⟩:∃b,b=w2.heap.size:=⟨_,rfl⟩;rw[← hbm]at hm3;obtain⟨M0,hM0⟩:∃M,M=tr.QL nn t idn au:=⟨_,rfl⟩;have hnil:∀X:World,qm X (.slice none 0 0) []:=fun X=>⟨none,0,rfl,Nat.le_refl _,fun k hk=>absurd hk (Nat.not_lt_zero _)⟩;have HQ3:=qe (hq2.below hB3);have HU3:=qe (hu2.below hB3);have HNI:=qe hnil;have HB3:=qe (HB2.out.trans (hB3.mono HB2.out.size));have um:=qe (xW.out.trans (hB3.mono xW.out.size));have HLU:=qe (show au.length≤1000000000000 by have:=HCH.out.2.2.1;omega);have HANS:=qe (show Calls Tryz.prog 11 #[.pointer (some ⟨h,0,none⟩),yZ (hdI idn) (.slice (some ⟨gq,0,none⟩) 1 1) (.slice none 0 0) (.slice ua un uc) (.slice none 0 0)] w3 fun e w'=>ZG (tr.uV H M0) [⟨nn,t,1⟩] w3 e w' from by
  rw[hM0];exact answer_any base h zs H HPOS.out (by have:=HLZ.out;have:=H8.out;omega) idn false 0 false false false false false false 0 [⟨nn,t,1⟩] [] au [] (by simp) (by simp) HLU.out (by simp) _ _ _ _ (.inr ⟨_,_,_,_,rfl⟩) w3 (HH.out.below HB3.out) (HZS.out.below HB3.out) HQ3.out (hnil w3) HU3.out (hnil w3))
 have HTK:=qe (show ∀(X:World) (xv:Value) (xs:List Msg),xs.length≤1000000000→(tr.rowsOf xs).length≤10000000→Below w3.heap.size w3 X→jB X xv xs→Calls Tryz.prog 20 #[.pointer zp,yZ (hdI idn) (.slice (some ⟨gq,0,none⟩) 1 1) (.slice none 0 0) (.slice ua un uc) (.slice none 0 0),xv] X fun e w'=>Qr (tr.uf Zo M0 xs) (.pointer zp) X e w' from fun X xv xs h1 h2 hX hx=>by
  rw[hM0];exact take7_any Zo (.pointer zp) idn false 0 false false false false false false 0 [⟨nn,t,1⟩] [] au [] (by simp) (by simp) HLU.out (by simp) _ _ _ _ xs h1 h2 xv X (HET.out.below (HB3.out.trans (hX.mono HB3.out.size))) (HCH.out.1.below (um.out.trans (hX.mono um.out.size))) (HQ3.out.below hX) (HNI.out X) (HU3.out.below hX) (HNI.out X) hx)
 have HCP:=qe (show tr.Yx H Zo M0 from by rw[hM0];exact HCH.out.2.1);have HM3:=qe hm3;have HW3:=qe hw3;have HBM:=qe hbm;clear hB2 hq2 hu2 hf2 hw3 hB3 hs3 hm3 hbm hM0 hnil HASK y0;go_upto_region 10 with fail;rw[← HW3.out,← HBM.out];obtain⟨x0,x1,x2,x3,x4,x5,x6,x7,x8,x9,x10,x11,x12,x13⟩:=HM3.out.facts;go_wp2_with fail;refine HANS.out.mono ?_;rintro e w4 ⟨hA,P,v,hL,hP2,hP16,rfl,hB4,hown⟩;obtain⟨xs,hxs⟩:∃xs,xs=tr.uV H M0:=⟨_,rfl⟩;have hrow:jB w4 v xs:=by
  rw[hxs,hL];exact hown.row (by simp) fun p hp=>by have:=hP16 p hp;omega
 have hcp:=HCP.out;unfold tr.Yx at hcp;rw[← hxs]at hcp;obtain⟨p0,p130,p16,pk,pe⟩:=hcp;have HB34:=qe hB4;have HB4:=qe (HB3.out.trans (hB4.mono HB3.out.size));have jo:=qe hrow;have HP16:=qe p16;have HPK:=qe pk;have HPE:=qe pe;have HP130:=qe p130;have HP0:=qe p0;obtain⟨va,vc,rfl,hvc,-⟩:=id hrow;obtain⟨m,hm⟩:∃m,m=xs.length:=⟨_,rfl⟩;have HMM:=qe hm;have HVC:=qe (show m≤vc by rw[hm];exact hvc);rw[← hm];clear hA hL hP2 hP16 hB4 hown hxs hrow p0 p130 p16 pk pe hvc hm HANS HCP x0 x1 x2 x3 x4 x5 x6 x7 x8 x9 x10 x11 x12 x13;have YT:=qe (show jB w4 (.slice va m vc) xs by rw[HMM.out];exact jo.out);clear jo;go_wp2_with fail
 go_loopw [61] (fun kv wr=>∃k:Nat,k≤m∧kv= .int .i64 (k:Int)∧Hid (Below w4.heap.size w4 wr)) (fun kv _=>m-(intOf kv).toNat)
 case atStart=>exact⟨0,Nat.zero_le _,rfl,qe (Below.refl _ _)⟩
 case round=>
  obtain⟨k,hk,rfl,HBR⟩:=hrel;obtain⟨wr4,hw4⟩:∃X:World,X=wr:=⟨_,rfl⟩;subst hw4;by_cases hlt:k<m
  ·have hki:(k:Int)<(m:Int):=by omega
   have ek:IntKind.i64.wrap ((k:Int)+1)=(k:Int)+1:=IntWalk.i64_in _ (by have:=HP130.out;have:=HMM.out;omega);have hkx:k<xs.length:=by have:=HMM.out;omega
   obtain⟨xb,xoff,mq,ma,mu,md,rfl,⟨c0,c1,c2,c3,c4,c5,c6,c7,c8,c9,c10,c11,c12,c13⟩,hin,hle⟩:=xS (YT.out.below HBR.out) hkx;obtain⟨M,hM⟩:∃M,M=xs[k]:=⟨_,rfl⟩;have h16:=HP16.out xs[k] (List.getElem_mem hkx);rw[← hM]at c0 c1 c2 c3 c4 c5 c6 c7 c8 c9 hin hle h16;obtain⟨w5,hw5⟩:∃X,X=wr4.alloc (.cells (yG M.h mq ma mu md).toArray 33):=⟨_,rfl⟩;obtain⟨hB5,hs5,hm5⟩:=zC hw5;obtain⟨bx,hbx⟩:∃b,b=wr4.heap.size:=⟨_,rfl⟩;rw[← hbx]at hm5;obtain⟨mqa,mqc,rfl,-⟩:=id hin.rq;obtain⟨maa,mac,rfl,-⟩:=id hin.ra;obtain⟨mua,muc,rfl,-⟩:=id hin.ru;obtain⟨mda,mdc,rfl,-⟩:=id hin.rd;have d0:((M.an.length:Int) == 0)=false:=by rw[beq_eq_false_iff_ne];omega
   have d1:¬((16:Int)<(M.an.length:Int)):=by omega
   have HW5:=qe hw5;have HBX:=qe hbx;have HM5:=qe hm5;have jO:=qe (HBR.out.trans (hB5.mono HBR.out.size));have HLT:=qe hlt;have HKI:=qe hki;clear hM h16 hin hle hw5 hB5 hs5 hm5 hbx hkx;go_upto_region 14 with fail;rw[← HW5.out,← HBX.out];clear c0 c1 c2 c3 c4 c5 c6 c7 c8 c9 c10 c11 c12 c13;obtain⟨x0,x1,x2,x3,x4,x5,x6,x7,x8,x9,x10,x11,x12,x13⟩:=HM5.out.facts;go_wp2_with fail
   go_roundw
   case rel=>exact⟨k+1,by omega,by go_num,jO⟩
   case measure=>simp[intOf];omega
  ·obtain rfl:k=m:=by omega
   obtain⟨w5,hw5⟩:∃X:World,X=wr4:=⟨_,rfl⟩;subst hw5;have HROW5:=qe (YT.out.below HBR.out);have HB5:=qe (HB4.out.trans (HBR.out.mono HB4.out.size));have QO:=qe (HB34.out.trans (HBR.out.mono HB34.out.size));obtain⟨xb,xoff,rfl⟩:∃b off,va=some ⟨b,off,none⟩:=by
    obtain⟨b,off,_,_,_,_,e,-⟩:=xS HROW5.out HP0.out;exact⟨b,off,e⟩
   have i0:(0:Int)<(k:Int):=by have:=HP0.out;have:=HMM.out;omega
   have hpi:=tr.pick_in cut i0;obtain⟨kq,hkq⟩:∃kq:Nat,tr.VT cut (k:Int)=(kq:Int):=⟨(tr.VT cut (k:Int)).toNat,by omega⟩;have hkl:kq<xs.length:=by have:=HMM.out;omega
   have HPI:=qe (show ∀X,Calls Tryz.prog 25 #[.int .i64 cut,.int .i64 (k:Int)] X fun e w'=>e= .returned (.int .i64 (kq:Int))∧w'=X from fun X=>by
    have h1:=pick_any cut (k:Int) HCT.out ⟨i0,by have:=HP130.out;have:=HMM.out;omega⟩ X;rw[hkq]at h1;exact h1)
   obtain⟨c,hc0,hc⟩:=HPK.out kq hkl;have hsh:=take_short HP130.out (fun m hm=>(HP16.out m hm).2) kq;have HT1:=qe (show ∀X,Below w5.heap.size w5 X→Calls Tryz.prog 20 #[.pointer zp,yZ (hdI idn) (.slice (some ⟨gq,0,none⟩) 1 1) (.slice none 0 0) (.slice ua un uc) (.slice none 0 0),.slice (some ⟨xb,xoff,none⟩) kq vc] X fun e w'=>e= .returned (.tuple #[.pointer none,.int .i64 c])∧Below X.heap.size X w' from fun X hX=>
    (HTK.out X _ (xs.take kq) hsh.1 hsh.2 (QO.out.trans (hX.mono QO.out.size)) ((HROW5.out.below hX).front (by omega))).mono fun e w' hp=>by
     rw[hc]at hp;exact⟨hp.2.2,hp.1⟩)
   have i1:(0:Int)≤(kq:Int):=by omega
   have i2:(kq:Int)≤(vc:Int):=by have:=HVC.out;have:=HMM.out;omega
   have i3:kq≤vc:=by omega
   have i4:(c == 0)=false:=by rw[beq_eq_false_iff_ne];exact hc0
   have zD:=qe (show ∀X,Below w5.heap.size w5 X→Below w5.heap.size w5 X∧X.cell? ⟨bm,0,none⟩=some (.int .i64 idn)∧X.cell? ⟨bm,1,none⟩=some (.bool false)∧X.cell? ⟨bm,2,none⟩=some (.int .i64 0)∧X.cell? ⟨bm,3,none⟩=some (.bool false)∧X.cell? ⟨bm,4,none⟩=some (.bool false)∧X.cell? ⟨bm,5,none⟩=some (.bool false)∧X.cell? ⟨bm,6,none⟩=some (.bool false)∧X.cell? ⟨bm,7,none⟩=some (.bool false)∧X.cell? ⟨bm,8,none⟩=some (.bool false)∧X.cell? ⟨bm,9,none⟩=some (.int .i64 0)∧X.cell? ⟨bm,10,none⟩=some (.slice (some ⟨gq,0,none⟩) 1 1)∧X.cell? ⟨bm,11,none⟩=some (.slice none 0 0)∧X.cell? ⟨bm,12,none⟩=some (.slice ua un uc)∧X.cell? ⟨bm,13,none⟩=some (.slice none 0 0) from fun X hX=>
    ⟨hX,(HM3.out.below (QO.out.trans (hX.mono QO.out.size))).facts⟩)
   clear hpi hkq hkl hc0 hc hsh hlt hk;go_upto_region 18 with fail
   go_cut [18,19] (fun a b wx=>a= .pointer none∧b= .int .i64 c∧Below w5.heap.size w5 wx)
   case first=>
    obtain⟨-,x0,x1,x2,x3,x4,x5,x6,x7,x8,x9,x10,x11,x12,x13⟩:=zD.out w5 (Below.refl _ _)
    go_region_held3
     (fun X=>Below w5.heap.size w5 X∧X.cell? ⟨bm,0,none⟩=some (.int .i64 idn)∧X.cell? ⟨bm,1,none⟩=some (.bool false)∧X.cell? ⟨bm,2,none⟩=some (.int .i64 0)∧X.cell? ⟨bm,3,none⟩=some (.bool false)∧X.cell? ⟨bm,4,none⟩=some (.bool false)∧X.cell? ⟨bm,5,none⟩=some (.bool false)∧X.cell? ⟨bm,6,none⟩=some (.bool false)∧X.cell? ⟨bm,7,none⟩=some (.bool false)∧X.cell? ⟨bm,8,none⟩=some (.bool false)∧X.cell? ⟨bm,9,none⟩=some (.int .i64 0)∧X.cell? ⟨bm,10,none⟩=some (.slice (some ⟨gq,0,none⟩) 1 1)∧X.cell? ⟨bm,11,none⟩=some (.slice none 0 0)∧X.cell? ⟨bm,12,none⟩=some (.slice ua un uc)∧X.cell? ⟨bm,13,none⟩=some (.slice none 0 0))
     (first | assumption | exact zD.out _ (Below.refl _ _).drew | (go_split_ands;exact zD.out _ (by assumption)))
     (first
      | (go_at_call 25;(with_reducible refine(HPI.out _).mono ?_);rintro e wN ⟨rfl,hE⟩;obtain rfl:=hE.symm;clear hE)
      | (go_at_call 20;(with_reducible refine(HT1.out _ (by go_split_ands;assumption)).mono ?_);rintro e wT ⟨rfl,hbT⟩;go_split_ands;have hbT2:=Below.trans (B:=w5.heap.size) (a:=w5) (by assumption) (hbT.mono (Below.size (by assumption)))))
    all_goals
     go_wp2_with fail;go_meet;exact⟨rfl,rfl,hbT2⟩
   obtain⟨rfl,rfl,hB6⟩:=hcut;obtain⟨w6,hw6⟩:∃X:World,X=wc:=⟨_,rfl⟩;subst hw6;have HB56:=qe hB6;have HB6:=qe (HB5.out.trans (hB6.mono HB5.out.size));have XB:=qe (QO.out.trans (hB6.mono QO.out.size));have HROW6:=qe (HROW5.out.below hB6);have HM6:=qe (HM3.out.below XB.out);have HT2:=qe (show Calls Tryz.prog 20 #[.pointer zp,yZ (hdI idn) (.slice (some ⟨gq,0,none⟩) 1 1) (.slice none 0 0) (.slice ua un uc) (.slice none 0 0),.slice (some ⟨xb,xoff,none⟩) k vc] w6 fun e w'=>∃z ap,e= .returned (.tuple #[qW z,.int .i64 0])∧Below w6.heap.size w6 w'∧tr.Ok ⟨ap,Zl.l⟩∧tr.yA ⟨ap,Zl.l⟩=tr.yA Zl∧jA w' w'.heap.size z ap Zl.l from
    (HTK.out w6 _ xs (by have:=HP130.out;omega) (X3 HP130.out fun m hm=>(HP16.out m hm).2) XB.out HROW6.out).mono fun e w' hp=>by
     rw[HZL.out];exact copy_full (by rw[← HZL.out];exact HOKL.out) (by rw[← HZL.out];exact HSL.out) (HCH.out.1.below (um.out.trans (XB.out.mono um.out.size))) HPE.out hp)
   clear hB6 zD HT1 HPI i0 i1 i2 i3;obtain⟨x0,x1,x2,x3,x4,x5,x6,x7,x8,x9,x10,x11,x12,x13⟩:=HM6.out.facts;go_wp2_with fail;refine HT2.out.mono ?_;rintro e w7 ⟨z7,ap7,rfl,hB7,hok7,hse7,hzf7⟩;have HB7:=qe (HB6.out.trans (hB7.mono HB6.out.size));obtain⟨sn,hsn⟩:∃s,s=tr.yA Zl:=⟨_,rfl⟩;have HS1:=qe (show ∀X,Below w7.heap.size w7 X→Calls Tryz.prog 61 #[qW z7] X fun e w'=>e= .returned (.int .i64 sn)∧Below X.heap.size X w' from fun X hX=>by
    have h1:=JL w7.heap.size z7 ⟨ap7,Zl.l⟩ hok7 X (hzf7.kept hX);rw[hse7,← hsn]at h1;exact h1)
   have HS2:=qe (show ∀X,Below w7.heap.size w7 X→Calls Tryz.prog 57 #[qW yl] X fun e w'=>e= .returned (.int .i64 sn)∧Below X.heap.size X w' from fun X hX=>by
    rw[hsn];exact Y9 yl Zl HOKL.out X (HYR.out X (HB7.out.trans (hX.mono HB7.out.size))).1)
   have HS3:=qe (show ∀X,Below w7.heap.size w7 X→Calls Tryz.prog 23 #[qW z7] X fun e w'=>yn Zl.l X e w' from fun X hX=>
    vI _ z7 ap7 Zl.l hzf7.small X (hzf7.kept hX).v)
   have HS4:=qe (show ∀(X:World) (u:Value),Below w7.heap.size w7 X→qm X u Zl.l→Calls Tryz.prog 22 #[u,.slice (some ⟨gl,0,none⟩) Zl.l.length cl] X fun e w'=>e= .returned (.bool true)∧Below X.heap.size X w' from fun X u hX hu=>by
    have h1:=Z8 Zl.l Zl.l (by have:=HOKL.out.small;omega) u (.slice (some ⟨gl,0,none⟩) Zl.l.length cl) X hu (HYR.out X (HB7.out.trans (hX.mono HB7.out.size))).2;rw[decide_eq_true rfl]at h1;exact h1)
   have zD:=qe (show ∀X,Below w7.heap.size w7 X→Below w7.heap.size w7 X∧X.cell? ⟨yl,1,none⟩=some (.slice (some ⟨gl,0,none⟩) Zl.l.length cl) from fun X hX=>⟨hX,(HYL.out X (HB7.out.trans (hX.mono HB7.out.size))).2⟩);clear hB7 hok7 hse7 hzf7 hsn x0 x1 x2 x3 x4 x5 x6 x7 x8 x9 x10 x11 x12 x13 HT2 i4;go_upto_region 22 with fail;obtain⟨-,q0⟩:=zD.out w7 (Below.refl _ _)
   go_region_held3 (fun X=>Below w7.heap.size w7 X∧X.cell? ⟨yl,1,none⟩=some (.slice (some ⟨gl,0,none⟩) Zl.l.length cl))
    (first | assumption | exact zD.out _ (Below.refl _ _).drew | (go_split_ands;exact zD.out _ (by assumption)))
    (first
     | (go_at_call 61;(with_reducible refine(HS1.out _ (by go_split_ands;assumption)).mono ?_);rintro e wA ⟨rfl,hbA⟩;go_split_ands;have Zi:=Below.trans (B:=w7.heap.size) (a:=w7) (by assumption) (hbA.mono (Below.size (by assumption))))
     | (go_at_call 57;(with_reducible refine(HS2.out _ (by go_split_ands;assumption)).mono ?_);rintro e wC ⟨rfl,hbC⟩;go_split_ands;have Vx:=Below.trans (B:=w7.heap.size) (a:=w7) (by assumption) (hbC.mono (Below.size (by assumption))))
     | (go_at_call 23;(with_reducible refine(HS3.out _ (by go_split_ands;assumption)).mono ?_);rintro e wD ⟨vD,rfl,hbD,hoD⟩;go_split_ands;have hbD2:=Below.trans (B:=w7.heap.size) (a:=w7) (by assumption) (hbD.mono (Below.size (by assumption))))
     | (go_at_call 22;(with_reducible refine(HS4.out _ _ (by go_split_ands;assumption) (qD hoD)).mono ?_);rintro e wE ⟨rfl,hbE⟩;go_split_ands;have hbE2:=Below.trans (B:=w7.heap.size) (a:=w7) (by assumption) (hbE.mono (Below.size (by assumption)))))
   all_goals
    go_wp2_with fail;go_ret;exact⟨rfl,HB7.out.trans (hbE2.mono HB7.out.size)⟩
namespace al
abbrev qg:ByteArray:=⟨#[2,101,120,0]⟩
abbrev soaR (s:Nat):Rec:=⟨⟨#[2,101,120,0]⟩,6,1,300,(⟨#[2,110,115,2,101,120,0,1,104,2,101,120,0,0,0,0]⟩:ByteArray) ++ (⟨#[UInt8.ofNat s]⟩:ByteArray) ++ (⟨#[0,0,0,1,0,0,0,1,0,0,0,1,0,0,0,60]⟩:ByteArray)⟩
abbrev nsR:Rec:=⟨⟨#[2,101,120,0]⟩,2,1,300,⟨#[2,110,115,2,101,120,0]⟩⟩
abbrev aR (k:Nat):Rec:=⟨⟨#[1,97,2,101,120,0]⟩,1,1,60,⟨#[1,2,3,UInt8.ofNat k]⟩⟩
def YW (s n:Nat):List Rec:=[soaR s,nsR] ++ (List.range n).map aR
theorem lot_next (s n:Nat):YW s (n+1)=YW s n ++ [aR n]:=by
 unfold YW;rw[List.range_succ,List.map_append,List.map_singleton,List.append_assoc]
theorem lot_len (s n:Nat):(YW s n).length=n+2:=by unfold YW;simp
theorem new1:zn.yO qg (YW 1 40)=none:=by decide +kernel
end al
theorem conv_one7 (X:World)(b n:Nat)(hn:n<256)(h:X.heap[b]? =some (.cells #[.int .u8 (n:Int)] 5 (0,0))):
 (convert 122 9 (.slice (some ⟨b,0,none⟩) 1 1)).run Tryz.prog X= .ok (.string ⟨#[UInt8.ofNat n]⟩) X:=by
 refine run_convert_bytes_back (P:=Tryz.prog) X 122 9 5 ⟨b,0,none⟩ 1 [UInt8.ofNat n] Tryz.underlying122 Tryz.underlying5 Tryz.underlying9 (fun j hj=>?_);obtain rfl:j=0:=by simpa using hj
 have h8:((UInt8.ofNat n).toNat:Int)=(n:Int):=by rw[UInt8.toNat_ofNat'];omega
 rw[show(⟨b,0,none⟩:Addr).add 0=⟨b,0,none⟩ from rfl,qh h];simp only[List.getElem_cons_zero,h8];rfl
theorem conv_four7 (X:World)(b n:Nat)(hn:n<256)(h:X.heap[b]? =some (.cells #[.int .u8 1,.int .u8 2,.int .u8 3,.int .u8 (n:Int)] 5 (0,0))):
 (convert 122 9 (.slice (some ⟨b,0,none⟩) 4 4)).run Tryz.prog X= .ok (.string ⟨#[1,2,3,UInt8.ofNat n]⟩) X:=by
 refine run_convert_bytes_back (P:=Tryz.prog) X 122 9 5 ⟨b,0,none⟩ 4 [1,2,3,UInt8.ofNat n] Tryz.underlying122 Tryz.underlying5 Tryz.underlying9 (fun j hj=>?_);have hj4:j<4:=hj;have hjj:j=0∨j=1∨j=2∨j=3:=by omega
 have h8:((UInt8.ofNat n).toNat:Int)=(n:Int):=by rw[UInt8.toNat_ofNat'];omega
 rcases hjj with rfl | rfl | rfl | rfl
 ·rw[show(⟨b,0,none⟩:Addr).add 0=⟨b,0,none⟩ from rfl,qh h];rfl
 ·rw[show(⟨b,0,none⟩:Addr).add 1=⟨b,1,none⟩ from rfl,qh h];rfl
 ·rw[show(⟨b,0,none⟩:Addr).add 2=⟨b,2,none⟩ from rfl,qh h];rfl
 ·rw[show(⟨b,0,none⟩:Addr).add 3=⟨b,3,none⟩ from rfl,qh h];simp only[List.getElem_cons_succ,List.getElem_cons_zero,h8];rfl
theorem lot_size:(Tryz.prog.info? 42).map (·.size)=some 2:=by kernel_rfl
theorem lot_ret {fn:Func}{p:Tmp}(hf:fn.results= #[.cell p 42]){R:Ending→World→Prop}{a:Act}{w:World}{g:Nat}{v0 v1:Value}(hp:a.tmps.getD p undef= .pointer (some ⟨g,0,none⟩))
 (hd:a.defers= []) (hg:w.heap[g]? =some (.cells #[v0,v1] 42 (0,0))) (hR:R (.returned (.agg #[v0,v1])) w):bodyPost Tryz.prog fn R .ret a w:=
 bodyPost_ret_by (results_cell_row hf _ w g _ _ _ _ hp hg Tryz.underlying42 rfl lot_size) hd hR
theorem VY (s n:Nat)(hs:s<256)(hn:n≤200)(w:World):
 Calls Tryz.prog 32 #[.int .u8 (s:Int),.int .i64 (n:Int)] w fun e w'=>∃rv,e= .returned (.agg #[.string al.qg,rv])∧Below w.heap.size w w'∧w'.ownsRow w.heap.size 80 5 rv (al.YW s n).length (qp (al.YW s n)):=by
 obtain⟨w1,hw1⟩:∃X,X=w.alloc (.cells #[.string ⟨#[]⟩,.slice none 0 0] 42):=⟨_,rfl⟩;obtain⟨b4,hb4⟩:∃b,b=w.heap.size:=⟨_,rfl⟩;have hB1:Below w.heap.size w w1:=by rw[hw1];exact(Below.refl _ _).alloc (Nat.le_refl _) _
 have hn1:w1.heap[b4]? =some (.cells #[.string ⟨#[]⟩,.slice none 0 0] 42 (0,0)):=by rw[hw1,hb4];exact qz rfl
 obtain⟨S,hS⟩:∃S:Int,S=(s:Int):=⟨_,rfl⟩;obtain⟨w2,hw2⟩:∃X,X=w1.alloc (.cells #[.int .u8 S] 5):=⟨_,rfl⟩;have hB2:Below w1.heap.size w1 w2:=by rw[hw2];exact(Below.refl _ _).alloc (Nat.le_refl _) _
 have hc2:(convert 122 9 (.slice (some ⟨w1.heap.size,0,none⟩) 1 1)).run Tryz.prog (w1.alloc (.cells #[.int .u8 S] 5))= .ok (.string ⟨#[UInt8.ofNat s]⟩) (w1.alloc (.cells #[.int .u8 S] 5)):=by
  rw[hS];exact conv_one7 _ _ s hs (qz rfl)
 obtain⟨w3,hw3⟩:∃X,X=w2.alloc (.cells #[.string ⟨#[2,101,120,0]⟩,.int .i64 6,.int .i64 1,.int .i64 300,.string ((⟨#[2,110,115,2,101,120,0,1,104,2,101,120,0,0,0,0]⟩:ByteArray) ++ (⟨#[UInt8.ofNat s]⟩:ByteArray) ++ (⟨#[0,0,0,1,0,0,0,1,0,0,0,1,0,0,0,60]⟩:ByteArray)),.string ⟨#[2,101,120,0]⟩,.int .i64 2,.int .i64 1,.int .i64 300,.string ⟨#[2,110,115,2,101,120,0]⟩] 80):=⟨_,rfl⟩;have hB3:Below w2.heap.size w2 w3:=by rw[hw3];exact(Below.refl _ _).alloc (Nat.le_refl _) _
 have hO3:w3.ownsRow w1.heap.size 80 5 (.slice (some ⟨w2.heap.size,0,none⟩) 2 2) (al.YW s 0).length (qp (al.YW s 0)):=by
  rw[hw3];exact⟨rfl,.inr ⟨w2.heap.size,2,_,rfl,hB2.size,qz rfl,Nat.le_refl _,by unfold maxLen;omega,rfl,rfl⟩⟩
 obtain⟨g3,hg3⟩:∃b,b=w2.heap.size:=⟨_,rfl⟩;rw[← hg3]at hO3;have HW1:=qe hw1;have HB4:=qe hb4;have HN1:=qe hn1;have HW2:=qe hw2;have HW3:=qe hw3;have HG3:=qe (show g3=w1.heap.size+1 by rw[hg3,hw2];simp);have HO3:=qe hO3;have HB1:=qe hB1;have um:=qe (hB2.trans (hB3.mono hB2.size));have HNN:=qe hn;have HLB:=qe (show b4<w1.heap.size from(Array.getElem?_eq_some_iff.1 hn1).1);rw[← hS];clear hw1 hb4 hn1 hw2 hw3 hg3 hO3 hB1 hB2 hB3 hs hS
 go_enter Tryz.func32,Tryz.ntmps32
 go_upto_region 1 with fail;rw[← HW1.out,← HB4.out];go_upto_region 3 with fail;rw[← HW2.out,← HW3.out,← HG3.out];clear hc2;go_wp2_with fail
 go_loopw [7,6] (fun kv av wr=>∃k:Nat,k≤n∧kv= .int .i64 (k:Int)∧Hid (wr.ownsRow w1.heap.size 80 5 av (al.YW s k).length (qp (al.YW s k)))∧Hid (Below w1.heap.size w1 wr)) (fun kv _ _=>n-(intOf kv).toNat)
 case atStart=>exact⟨0,Nat.zero_le _,rfl,HO3,um⟩
 case round=>
  obtain⟨k,hk,rfl,HO,HB⟩:=hrel;obtain⟨wr4,hw4⟩:∃X:World,X=wr:=⟨_,rfl⟩;subst hw4;obtain⟨va,vc,rfl,-⟩:=qi HO.out;obtain⟨P,hP⟩:∃P,P=al.YW s k:=⟨_,rfl⟩;have HPL:=qe (show P.length=k+2 by rw[hP,al.lot_len]);have HPP:=qe hP;rw[← hP]at HO ⊢;by_cases hlt:k<n
  ·have hki:(k:Int)<(n:Int):=by omega
   obtain⟨K,hK⟩:∃K:Int,K=(k:Int):=⟨_,rfl⟩;have ek:IntKind.i64.wrap (K+1)=K+1:=IntWalk.i64_in _ (by have:=HNN.out;omega);have ew:IntKind.u8.wrap K=K:=by rw[IntKind.wrap_u8];have:=HNN.out;omega
   rw[← hK]at hki ⊢;have HNX:=qe (show al.YW s (k+1)=P ++ [al.aR k] by rw[al.lot_next,hP]);obtain⟨w5,hw5⟩:∃X,X=wr4.alloc (.cells #[.int .u8 1,.int .u8 2,.int .u8 3,.int .u8 K] 5):=⟨_,rfl⟩;have hB5:Below wr4.heap.size wr4 w5:=by rw[hw5];exact(Below.refl _ _).alloc (Nat.le_refl _) _
   have hc5:(convert 122 9 (.slice (some ⟨wr4.heap.size,0,none⟩) 4 4)).run Tryz.prog (wr4.alloc (.cells #[.int .u8 1,.int .u8 2,.int .u8 3,.int .u8 K] 5))= .ok (.string ⟨#[1,2,3,UInt8.ofNat k]⟩) (wr4.alloc (.cells #[.int .u8 1,.int .u8 2,.int .u8 3,.int .u8 K] 5)):=by
    rw[hK];exact conv_four7 _ _ k (by have:=HNN.out;omega) (qz rfl)
   obtain⟨w6,hw6⟩:∃X,X=w5.alloc (.cells (recC (al.aR k)).toArray 80):=⟨_,rfl⟩;obtain⟨hB6,-,-⟩:=qY w5 w6 (al.aR k) hw6;obtain⟨g6,hg6⟩:∃b,b=w5.heap.size:=⟨_,rfl⟩;have hB16:=HB.out.trans ((hB5.trans (hB6.mono hB5.size)).mono HB.out.size);have hon:=jK (base:=w1.heap.size) (al.aR k) hw6 (HB.out.trans (hB5.mono HB.out.size)).size;rw[← hg6]at hon;have HON:=qe hon;have HO6:=qe (ownsRow_below HO.out (hB5.trans (hB6.mono hB5.size)));have HW5:=qe hw5;have HW6:=qe hw6;have HG6:=qe (show g6=wr4.heap.size+1 by rw[hg6,hw5];simp);have VG:=qe hB16;have HKK:=qe hK;have HLT:=qe hlt;clear hw5 hB5 hw6 hB6 hg6 hB16 hon hP hK hlt;go_wp2_with (at_builtin;rw[← HW5.out,← HW6.out,← HG6.out];refine q9 rfl _ _ rfl w1.heap.size _ _ _ rfl HO6.out _ (yK HON.out) _ (qD HON.out) rfl (by have:=HPL.out;have:=HNN.out;simp only[List.length_singleton];omega) VG.out.size ?_);intro v8 w8 Kk hg8 hn8;have HB18:=qe (VG.out.grown hg8 VG.out.size (fun j hj=>(HO6.out.lt j hj).1));have HO8:=qe (jl rfl rfl Kk);clear Kk hg8 hn8 hc5;go_wp2_with fail
   go_roundw
   case rel=>exact⟨k+1,by have:=HLT.out;omega,by rw[HKK.out];rfl,by rw[HNX.out];exact HO8,HB18⟩
   case measure=>have:=HLT.out;have:=HKK.out;simp[intOf];omega
  ·obtain rfl:k=n:=by omega
   have hki:¬((k:Int)<(k:Int)):=by omega
   have h4:=(HB.out.block b4 HLB.out).trans HN1.out;have c0:wr4.cell? ⟨b4,0,none⟩=some (.string ⟨#[]⟩):=by rw[qh h4];rfl
   have c1:wr4.cell? ⟨b4,1,none⟩=some (.slice none 0 0):=by rw[qh h4];rfl
   have f0:=qE h4 0;have f1:=qE h4 1;have hg9:wr4.grownBy ((wr4.setCell ⟨b4,0,none⟩ (.string ⟨#[2,101,120,0]⟩)).setCell ⟨b4,1,none⟩ (.slice va P.length vc)) (some b4):=(grownBy_setCell wr4 ⟨b4,0,none⟩ _).trans (grownBy_setCell _ ⟨b4,1,none⟩ _);have HFI:=qe (show((wr4.setCell ⟨b4,0,none⟩ (.string ⟨#[2,101,120,0]⟩)).setCell ⟨b4,1,none⟩ (.slice va P.length vc)).heap[b4]? =some (.cells #[.string ⟨#[2,101,120,0]⟩,.slice va P.length vc] 42 (0,0)) from qC (qC h4 0 _) 1 _);have HOW:=qe (qj HO.out fun b hb=>hg9.block b (HO.out.lt b hb).2 (by have:=(HO.out.lt b hb).1;have:=HLB.out;simp only[ne_eq,Option.some.injEq];omega));have HBF:=qe ((HB1.out.trans (HB.out.mono HB1.out.size)).grown hg9 (HB1.out.trans (HB.out.mono HB1.out.size)).size (fun j hj=>by simp only[Option.some.injEq]at hj;rw[← hj,HB4.out];exact Nat.le_refl _));clear h4 hg9 hP hk hlt;go_wp2_with fail;refine lot_ret rfl rfl rfl HFI.out ⟨_,rfl,HBF.out,?_⟩;rw[← HPP.out];exact qG HOW.out HB1.out.size
namespace al
theorem size1:(⟨#[2,101,120,0]⟩:ByteArray).size≤1099511627776:=by decide
theorem size2:(⟨#[1,97,2,101,120,0]⟩:ByteArray).size≤1099511627776:=by decide
theorem lot_wf (s n:Nat):∀r∈YW s n,(Lit.int .i64 r.typ).wf=true∧r.owner.size≤1099511627776:=by
 intro r hr;unfold YW at hr;simp only[List.mem_append,List.mem_cons,List.not_mem_nil,or_false,List.mem_map]at hr;rcases hr with(rfl | rfl) | ⟨k,-,rfl⟩
 ·exact⟨rfl,size1⟩
 ·exact⟨rfl,size1⟩
 ·exact⟨rfl,size2⟩
end al
theorem risen_two {H:List tr.Zn}(hc:tr.Chain H)(h2:H.length≤2):tr.ve H=true:=tr.risen_all fun k j hk hj=>by
 obtain rfl:k=1:=by omega
 obtain rfl:j=0:=by omega
 exact hc 0 hk
theorem alive_any (w:World)(het:ErrT w):Calls Tryz.prog 7 #[] w fun e w'=>e= .returned (.bool true)∧Below w.heap.size w w':=by
 have HET:=qe het;clear het
 go_enter Tryz.func7,Tryz.ntmps7
 go_wp2_with fail;refine(VY 1 40 (by decide) (by decide) w).mono ?_;rintro e w1 ⟨r1,rfl,hB1,ho1⟩;have HB1:=qe hB1;have HO1:=qe ho1;obtain⟨a1,c1,rfl,-⟩:=qi ho1;obtain⟨l1,hl1⟩:∃l,l=al.YW 1 40:=⟨_,rfl⟩;rw[← hl1]at HO1 ⊢;have HL1:=qe hl1;clear hB1 ho1 hl1;go_wp2_with fail;refine(VY 2 41 (by decide) (by decide) w1).mono ?_;rintro e w2 ⟨r2,rfl,hB2,ho2⟩;have HB2:=qe (HB1.out.trans (hB2.mono HB1.out.size));have HO2:=qe ho2;have HO12:=qe (ownsRow_below HO1.out hB2);obtain⟨a2,c2,rfl,-⟩:=qi ho2;obtain⟨l2,hl2⟩:∃l,l=al.YW 2 41:=⟨_,rfl⟩;rw[← hl2]at HO2 ⊢;have HL2:=qe hl2;clear hB2 ho2 hl2 HO1;obtain⟨m1,hm1⟩:∃m,m=l1.length:=⟨_,rfl⟩;obtain⟨m2,hm2⟩:∃m,m=l2.length:=⟨_,rfl⟩;rw[← hm1,← hm2];obtain⟨w3,hw3⟩:∃X,X=w2.alloc (.cells #[.string ⟨#[2,101,120,0]⟩,.slice a1 m1 c1,.string ⟨#[2,101,120,0]⟩,.slice a2 m2 c2] 42):=⟨_,rfl⟩;obtain⟨g3,hg3⟩:∃b,b=w2.heap.size:=⟨_,rfl⟩;have hB3:Below w2.heap.size w2 w3:=by rw[hw3];exact(Below.refl _ _).alloc (Nat.le_refl _) _
 have hn3:w3.heap[g3]? =some (.cells #[.string ⟨#[2,101,120,0]⟩,.slice a1 m1 c1,.string ⟨#[2,101,120,0]⟩,.slice a2 m2 c2] 42 (0,0)):=by rw[hw3,hg3];exact qz rfl
 have hr1:qm w3 (.slice a1 m1 c1) l1:=by rw[hm1];exact(qD HO12.out).below hB3
 have hr2:qm w3 (.slice a2 m2 c2) l2:=by rw[hm2];exact(qD HO2.out).below hB3
 have s1:yt (.slice a1 m1 c1):=by rw[hm1];exact yK HO12.out
 have s2:yt (.slice a2 m2 c2):=by rw[hm2];exact yK HO2.out
 have hlots:KU w3 (.slice (some ⟨g3,0,none⟩) 2 2) [⟨al.qg,l1⟩,⟨al.qg,l2⟩]:=by
  refine⟨some ⟨g3,0,none⟩,2,rfl,Nat.le_refl _,fun k hk=>?_⟩;have hk2:k=0∨k=1:=by simp only[List.length_cons,List.length_nil]at hk;omega
  rcases hk2 with rfl | rfl
  ·exact⟨g3,0,.slice a1 m1 c1,rfl,(Array.getElem?_eq_some_iff.1 hn3).1,by rw[qh hn3];rfl,by rw[qh hn3];rfl,hr1,s1,al.size1,fun r hr=>(al.lot_wf 1 40 r (by rw[← HL1.out];exact hr)).1,fun r hr=>(al.lot_wf 1 40 r (by rw[← HL1.out];exact hr)).2⟩
  ·exact⟨g3,0,.slice a2 m2 c2,rfl,(Array.getElem?_eq_some_iff.1 hn3).1,by rw[qh hn3];rfl,by rw[qh hn3];rfl,hr2,s2,al.size1,fun r hr=>(al.lot_wf 2 41 r (by rw[← HL2.out];exact hr)).1,fun r hr=>(al.lot_wf 2 41 r (by rw[← HL2.out];exact hr)).2⟩
 have HH:=qe (V7 [⟨al.qg,l1⟩,⟨al.qg,l2⟩] (by simp) _ w3 hlots);have HB3:=qe (HB2.out.trans (hB3.mono HB2.out.size));have HW3:=qe hw3;have HG3:=qe hg3;clear hm1 hm2 hw3 hg3 hB3 hn3 hr1 hr2 s1 s2 hlots;go_wp2_with fail;rw[← HW3.out,← HG3.out];refine HH.out.mono ?_;rintro e w4 ⟨H,hv,gv,rfl,hHN,hne,hB4,hP⟩;have hHne:H≠[]:=hne ⟨al.qg,l1⟩ (List.mem_cons_self ..) (by show zn.yO al.qg l1=none;rw[HL1.out];exact al.new1);rcases hP with⟨rfl,-,-⟩|⟨hH,hch,h8,h,zs,ys,rfl,lz,ly,hhi,hzs,hr,hrz⟩
 ·exact absurd rfl hHne
 have hris:=risen_two hch hHN;have HB4:=qe (HB3.out.trans (hB4.mono HB3.out.size));obtain⟨n,hn⟩:∃n,n=ys.length:=⟨_,rfl⟩;have hpos:=hH.ne;obtain⟨g,off,cap,rfl,hcap,hgl,cz⟩:=id hr;obtain⟨y0,hy0⟩:∃y,y=ys[0]'(by omega):=⟨_,rfl⟩;have HC:=qe (show ∀(X:World) (hv:Value),Below w4.heap.size w4 X→(hv= .pointer none∨(tr.ve H=true∧∃f,∃hf:f<ys.length,hv=qW ys[f]))→Calls Tryz.prog 26 #[.pointer (some ⟨h,0,none⟩),.slice (some ⟨g,off,none⟩) n cap,hv,.int .i64 0,.int .i64 0] X fun e w'=>e= .returned (.bool true)∧Below X.heap.size X w' from fun X hv hX hhas=>by
  rw[hn];exact copied_any _ H h zs ys _ hH h8 lz ly 0 0 (by omega) (by omega) X (HET.out.below (HB4.out.trans (hX.mono HB4.out.size))) (hhi.below hX) (hzs.below hX) (hr.below hX) (hrz.below hX) hv hhas)
 have HY:=qe (show ∀X,Below w4.heap.size w4 X→X.cell? ⟨g,off,none⟩=some (qW y0) from fun X hX=>by
  rw[hy0];exact(hX.cell (p:=⟨g,off,none⟩) hgl).trans (cz 0 (by omega)))
 have HY0:=qe (show tr.ve H=true∧∃f,∃hf:f<ys.length,qW y0=qW ys[f] from⟨hris,0,by omega,by rw[hy0]⟩);have e0:0<n:=by omega
 have e1:(0:Int)<(n:Int):=by omega
 rw[← hn];clear hHN hne hB4 hHne hH hch h8 lz ly hhi hzs hr hrz hris hn hpos hcap hgl cz hy0 HH;go_wp2_with fail;refine(HC.out w4 _ (Below.refl _ _) (.inl rfl)).mono ?_;rintro e w5 ⟨rfl,hB5⟩;have jO:=qe hB5;have HB5:=qe (HB4.out.trans (hB5.mono HB4.out.size));have c0:=HY.out w5 hB5;clear hB5;go_wp2_with fail;refine(HC.out w5 _ jO.out (.inr HY0.out)).mono ?_;rintro e w6 ⟨rfl,hB6⟩;have HB6:=qe (HB5.out.trans (hB6.mono HB5.out.size));clear hB6 c0;go_wp2_with fail;go_ret;exact⟨rfl,HB6.out⟩
end Go.Proofs.YtpcmilhjpmlbpaaGreatDoor
