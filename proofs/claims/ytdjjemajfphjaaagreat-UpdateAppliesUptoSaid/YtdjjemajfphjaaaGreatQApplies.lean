import Derived.Test.YtdjjemajfphjaaaGreatQUpdL
import Derived.Test.YtdjjemajfphjaaaGreatQUpdAm
import Derived.Test.YtdjjemajfphjaaaGreatQRApp
import Derived.Test.YtdjjemajfphjaaaGreatQOpenL
import Derived.Deep.RegionHeld3
import Derived.Deep.CutBlock
set_option maxRecDepth 100000
set_option maxHeartbeats 16000000
namespace Go.Proofs.YtdjjemajfphjaaaGreat
open Go.RowKit Go.Shelf Go.WideMaps nm od
theorem msgs_get {w:World}{ao:Option Addr}{n cap:Nat}{l:List Msg}(h:Vl w (.slice ao n cap) l){k:Nat}(hk:k<l.length):
 ∃b off q a u d,ao=some ⟨b,off,none⟩∧(w.cell? ⟨b,off+k*14,none⟩=some (.int .i64 l[k].h.id)∧w.cell? ⟨b,off+k*14+1,none⟩=some (.bool l[k].h.UU)∧w.cell? ⟨b,off+k*14+2,none⟩=some (.int .i64 l[k].h.op)∧
  w.cell? ⟨b,off+k*14+3,none⟩=some (.bool l[k].h.aa)∧w.cell? ⟨b,off+k*14+4,none⟩=some (.bool l[k].h.tc)∧w.cell? ⟨b,off+k*14+5,none⟩=some (.bool l[k].h.rd)∧w.cell? ⟨b,off+k*14+6,none⟩=some (.bool l[k].h.ra)∧
  w.cell? ⟨b,off+k*14+7,none⟩=some (.bool l[k].h.ad)∧w.cell? ⟨b,off+k*14+8,none⟩=some (.bool l[k].h.cd)∧w.cell? ⟨b,off+k*14+9,none⟩=some (.int .i64 l[k].h.vE)∧w.cell? ⟨b,off+k*14+10,none⟩=some q∧
  w.cell? ⟨b,off+k*14+11,none⟩=some a∧w.cell? ⟨b,off+k*14+12,none⟩=some u∧w.cell? ⟨b,off+k*14+13,none⟩=some d)∧MsgIn w l[k] q a u d∧MsgFitA l[k] q a u d:=by
 obtain⟨ao',cap',hv,_,h3⟩:=h
 simp only[Value.slice.injEq]at hv
 obtain⟨rfl,-,-⟩:=hv
 obtain⟨b,off,q,a,u,d,e,_,hc,hi,hf⟩:=h3 k hk
 exact⟨b,off,q,a,u,d,e,⟨hc 0 _ rfl,hc 1 _ rfl,hc 2 _ rfl,hc 3 _ rfl,hc 4 _ rfl,hc 5 _ rfl,hc 6 _ rfl,hc 7 _ rfl,hc 8 _ rfl,hc 9 _ rfl,hc 10 _ rfl,hc 11 _ rfl,hc 12 _ rfl,hc 13 _ rfl⟩,hi,hf⟩
theorem rapp_bad {qf:ByteArray}{L:List Rec}{h:Hd}{qs:List Qn}{an au ad:List Rec}{w w':World}{e:Ending}(hp:QU qf L h qs an au ad w e w')(hc:up.zN qf L h qs an au ad≠0):
 Below w.heap.size w w'∧e= .returned (.tuple #[.pointer none,.int .i64 (up.zN qf L h qs an au ad)]):=by
 obtain⟨hB,⟨_,h2⟩|⟨h1,_⟩|⟨h1,_⟩⟩:=hp
 ·exact⟨hB,h2⟩
 ·exact absurd h1 hc
 ·exact absurd h1 hc
theorem rapp_five {qf:ByteArray}{L:List Rec}{h:Hd}{qs:List Qn}{an au ad:List Rec}{w w':World}{e:Ending}(hp:QU qf L h qs an au ad w e w')(hc:up.zN qf L h qs an au ad=0)(hn:zn.yY qf (up.Yf qf L au)≠none):
 Below w.heap.size w w'∧e= .returned (.tuple #[.pointer none,.int .i64 5]):=by
 obtain⟨hB,⟨h1,_⟩|⟨_,_,h2⟩|⟨_,h1,_⟩⟩:=hp
 ·exact absurd hc h1
 ·exact⟨hB,h2⟩
 ·exact absurd h1 hn
theorem rapp_ok {qf:ByteArray}{L:List Rec}{h:Hd}{qs:List Qn}{an au ad:List Rec}{w w':World}{e:Ending}(hp:QU qf L h qs an au ad w e w')(hc:up.zN qf L h qs an au ad=0)(hn:zn.yY qf (up.Yf qf L au)=none):
 Below w.heap.size w w'∧∃y L',zQ (up.Yf qf L au) L'∧e= .returned (.tuple #[.pointer (some ⟨y,0,none⟩),.int .i64 0])∧vO w' y qf L':=by
 obtain⟨hB,⟨h1,_⟩|⟨_,h1,_⟩|⟨_,_,h2⟩⟩:=hp
 ·exact absurd hc h1
 ·exact absurd hn h1
 ·exact⟨hB,h2⟩
theorem Yc (x:List Rec)(hx:x.length≤1000000000000)(v u:Value)(w:World)(hv:qy w v x)(hu:qy w u x):
 Calls Tryz.prog 14 #[v,u] w fun e w'=>e= .returned (.bool true)∧Below w.heap.size w w':=by
 have h:=same_any x x hx v u w hv hu
 rw[decide_eq_true rfl]at h
 exact h
theorem applies_any (top:ByteArray)(htop:top.size≤1099511627776)(l:List Rec)(hok:∀r∈l,(Lit.int .i64 r.typ).wf=true)(hsz:∀r∈l,r.owner.size≤1099511627776)(v:Value)(hf:yS v)(N:List Msg)(hnl:N.length≤1048576)(mv:Value)
 (w:World) (hrv:qy w v l) (hmv:Vl w mv N):
 Calls Tryz.prog 4 #[.string top,v,mv] w fun e w'=>e= .returned (.bool true)∧Below w.heap.size w w':=by
 have HN:=Lib.hid (both_any top htop l hok hsz v hf w hrv)
 have HT:=Lib.hid htop
 obtain⟨ao,cap,rfl,-,-⟩:=id hmv
 have HMV:=Lib.hid hmv
 clear hrv hmv hok hsz hf
 go_enter Tryz.func4,Tryz.ntmps4
 go_wp2_with fail
 refine HN.out.mono ?_
 rintro e w2 ⟨hB2,⟨-,rfl⟩|⟨-,z0,y0,L0,-,rfl,hp⟩⟩
 ·have HB2:=Lib.hid hB2
  clear hB2
  go_wp2_with fail
  refine(alive_any w2).mono ?_
  rintro e w3 ⟨rfl,hB3⟩
  have HB3:=Lib.hid (HB2.out.trans (hB3.mono HB2.out.size))
  clear hB3
  go_wp2_with fail
  go_ret
  exact⟨rfl,HB3.out⟩
 ·have HB2:=Lib.hid hB2
  have HP2:=Lib.hid hp
  clear hB2 hp
  go_wp2_with fail
  refine(alive_any w2).mono ?_
  rintro e w3 ⟨rfl,hB3⟩
  have HB3:=Lib.hid (HB2.out.trans (hB3.mono HB2.out.size));have HP3:=Lib.hid (HP2.out.kept hB3)
  clear hB3
  go_wp2_with fail
  go_loopw [34,7,8] (fun kv zv yv wr=>∃(k z y:Nat) (L:List Rec),k≤N.length∧kv= .int .i64 (k:Int)∧zv= .pointer (some ⟨z,0,none⟩)∧yv= .pointer (some ⟨y,0,none⟩)∧Hid (Uj wr z y top L)∧Hid (Below w.heap.size w wr)) (fun kv _ _ _=>N.length-(intOf kv).toNat)
  case atStart=>exact⟨0,z0,y0,L0,Nat.zero_le _,rfl,rfl,rfl,HP3,HB3⟩
  case round=>
   obtain⟨k,z,y,L,hk,rfl,rfl,rfl,HP,HB⟩:=hrel
   obtain⟨wr3,hw3⟩:∃X:World,X=wr:=⟨_,rfl⟩
   subst hw3
   by_cases hlt:k<N.length
   ·obtain⟨b,off,q,a,u,d,rfl,hcc,hin,hfit⟩:=msgs_get (HMV.out.below HB.out) hlt
    have hki:(k:Int)<(N.length:Int):=by omega
    obtain⟨M,hM⟩:∃M,M=N[k]:=⟨_,rfl⟩
    rw[← hM]at hcc hin hfit
    obtain⟨c0,c1,c2,c3,c4,c5,c6,c7,c8,c9,c10,c11,c12,c13⟩:=hcc
    obtain⟨qa,qc,rfl,-⟩:=id hin.rq
    obtain⟨aa,ac,rfl,-⟩:=id hin.ra
    obtain⟨ua,uc,rfl,-⟩:=id hin.ru
    obtain⟨da,dc,rfl,-⟩:=id hin.rd
    obtain⟨wa,hwa⟩:∃X,X=wr3.alloc (.cells (Yh M.h (.slice qa M.qs.length qc) (.slice aa M.an.length ac) (.slice ua M.au.length uc) (.slice da M.ad.length dc)).toArray 25):=⟨_,rfl⟩
    obtain⟨hBa,hsa,hma⟩:=uJ hwa
    obtain⟨bm,hbm⟩:∃b,b=wr3.heap.size:=⟨_,rfl⟩
    rw[← hbm]at hma
    have HWA:=Lib.hid hwa;have HBM:=Lib.hid hbm;have HMA:=Lib.hid hma;have HBA:=Lib.hid hBa;have HIN:=Lib.hid (hin.below hBa);have HF:=Lib.hid hfit;have HLT:=Lib.hid hlt
    clear hwa hbm hma hBa hsa hin hfit hM
    go_upto_region 9 with fail
    rw[← HWA.out,← HBM.out]
    clear c0 c1 c2 c3 c4 c5 c6 c7 c8 c9 c10 c11 c12 c13 hki
    obtain⟨m0,m1,m2,m3,m4,m5,m6,m7,m8,m9,m10,m11,m12,m13⟩:=HMA.out.facts
    have HTW:=Lib.hid (UE M.h M.qs M.an M.au M.ad (by have:=HF.out.nq;omega) (by have:=HF.out.na;omega) (by have:=HF.out.nu;omega) (by have:=HF.out.nd;omega) _ _ _ _ HF.out.fq HF.out.fa HF.out.fu HF.out.fd wa HIN.out.rq HIN.out.ra HIN.out.ru HIN.out.rd)
    go_wp2_with fail
    refine HTW.out.mono ?_
    rintro e w4 ⟨q',ga,ca,gu,cu,gd,cd,rfl,hB4,hq4,ha4,hu4,hd4⟩
    obtain⟨qa',qc',rfl,-⟩:=qC hq4
    obtain⟨w5,hw5⟩:∃X,X=w4.alloc (.cells (Yh M.h (.slice qa' M.qs.length qc') (.slice (some ⟨ga,0,none⟩) M.an.length ca) (.slice (some ⟨gu,0,none⟩) M.au.length cu) (.slice (some ⟨gd,0,none⟩) M.ad.length cd)).toArray 25):=⟨_,rfl⟩
    obtain⟨hB5,hs5,hm5⟩:=uJ hw5
    obtain⟨bo,hbo⟩:∃b,b=w4.heap.size:=⟨_,rfl⟩
    rw[← hbo]at hm5
    have hBa5:=hB4.trans (hB5.mono hB4.size)
    have HW5:=Lib.hid hw5;have HBO:=Lib.hid hbo
    have HBR5:=Lib.hid (HBA.out.trans (hBa5.mono HBA.out.size))
    have HB5:=Lib.hid (HB.out.trans (HBR5.out.mono HB.out.size))
    have HQT:=Lib.hid (show kJ w5 (.slice qa' M.qs.length qc') M.qs from(owns_qns hq4).below hB5)
    have HTA:=Lib.hid (ha4.below hB5);have HTU:=Lib.hid (hu4.below hB5);have HTD:=Lib.hid (hd4.below hB5)
    have HO:=Lib.hid hm5
    have HM:=Lib.hid (HMA.out.below hBa5)
    have HI5:=Lib.hid (HIN.out.below hBa5)
    have HP5:=Lib.hid (HP.out.kept HBR5.out)
    clear hw5 hbo hB4 hB5 hs5 hm5 hq4 ha4 hu4 hd4 hBa5 m0 m1 m2 m3 m4 m5 m6 m7 m8 m9 m10 m11 m12 m13 HTW
    go_upto_region 10 with fail
    rw[← HW5.out,← HBO.out]
    have HVA:=Lib.hid HP5.out.1
    have HU:=Lib.hid (show Calls Tryz.prog 12 #[.pointer (some ⟨z,0,none⟩),Yg M.h (.slice qa' M.qs.length qc') (.slice (some ⟨ga,0,none⟩) M.an.length ca) (.slice (some ⟨gu,0,none⟩) M.au.length cu) (.slice (some ⟨gd,0,none⟩) M.ad.length cd)] w5 fun e w'=>ApplyPost top L M.h M.qs M.an M.au M.ad w5 e w' by
     obtain⟨hv,tz,hz,-⟩:=HP5.out
     exact Xn tz z top L hv M.h M.qs M.an M.au M.ad (by have:=HF.out.nq;omega) (by have:=HF.out.na;omega) (by have:=HF.out.nu;omega) (by have:=HF.out.nd;omega) (fun h0=>chg_msg h0) _ _ _ _ w5 hz HQT.out HTA.out.recs HTU.out.recs HTD.out.recs)
    have HR:=Lib.hid (show ∀X,Below w5.heap.size w5 X→Calls Tryz.prog 13 #[.pointer (some ⟨y,0,none⟩),Yg M.h (.slice qa M.qs.length qc) (.slice aa M.an.length ac) (.slice ua M.au.length uc) (.slice da M.ad.length dc)] X fun e w'=>QU top L M.h M.qs M.an M.au M.ad X e w' from fun X hX=>by
     obtain⟨hv,tz,-,hy⟩:=HP5.out
     have hi:=HI5.out.below hX
     exact rapply_any y top HT.out L hv M.h M.qs M.an M.au M.ad (by have:=HF.out.nq;omega) (by have:=HF.out.na;omega) (by have:=HF.out.nu;omega) (by have:=HF.out.nd;omega) _ _ _ _ X (fun x hx=>(HF.out.sq x hx).2) (fun x hx=>(HF.out.sa x hx).2) (fun x hx=>(HF.out.su x hx).2) (fun x hx=>(HF.out.sd x hx).2) (hy.below hX) hi.rq hi.ra hi.ru hi.rd)
    have HWM:=Lib.hid (show ∀X,Below w5.heap.size w5 X→Calls Tryz.prog 11 #[Yg M.h (.slice qa' M.qs.length qc') (.slice (some ⟨ga,0,none⟩) M.an.length ca) (.slice (some ⟨gu,0,none⟩) M.au.length cu) (.slice (some ⟨gd,0,none⟩) M.ad.length cd),Yg M.h (.slice qa M.qs.length qc) (.slice aa M.an.length ac) (.slice ua M.au.length uc) (.slice da M.ad.length dc)] X fun e w'=>e= .returned (.bool true)∧Below X.heap.size X w' from fun X hX=>by
     have hi:=HI5.out.below hX
     exact UA _ M.h M.qs M.an M.au M.ad (by have:=HF.out.nq;omega) (by have:=HF.out.na;omega) (by have:=HF.out.nu;omega) (by have:=HF.out.nd;omega) _ _ _ _ _ _ _ _ _ _ _ X (HQT.out.below hX) (HTA.out.below hX) (HTU.out.below hX) (HTD.out.below hX) hi.rq hi.ra hi.ru hi.rd)
    have hrefl:=Below.refl w5.heap.size w5
    obtain⟨m0,m1,m2,m3,m4,m5,m6,m7,m8,m9,m10,m11,m12,m13⟩:=(HM.out.below hrefl).facts
    obtain⟨o0,o1,o2,o3,o4,o5,o6,o7,o8,o9,o10,o11,o12,o13⟩:=(HO.out.below hrefl).facts
    clear hrefl
    have q1:(top.toList == top.toList)=true:=str_eq.2 rfl
    have q2:(top.toList != top.toList)=false:=by rw[bne_eq_false_iff_eq]
    have Q1:=Lib.hid q1;have Q2:=Lib.hid q2
    clear q1 q2
    go_wp2_with fail
    refine HU.out.mono ?_
    rintro e w6 ⟨hB6,hp6⟩
    have Vm:=Lib.hid hB6
    clear hB6 HU
    clear m0 m1 m2 m3 m4 m5 m6 m7 m8 m9 m10 m11 m12 m13 o0 o1 o2 o3 o4 o5 o6 o7 o8 o9 o10 o11 o12 o13
    obtain⟨m0,m1,m2,m3,m4,m5,m6,m7,m8,m9,m10,m11,m12,m13⟩:=(HM.out.below Vm.out).facts
    obtain⟨o0,o1,o2,o3,o4,o5,o6,o7,o8,o9,o10,o11,o12,o13⟩:=(HO.out.below Vm.out).facts
    rcases hp6 with⟨hcn,rfl⟩|⟨hc0,hne,rfl⟩|⟨hc0,hne,ta,za,L1,hs1,rfl,hzf⟩
    ·obtain⟨cs,hcs⟩:∃cs,cs=up.zN top L M.h M.qs M.an M.au M.ad:=⟨_,rfl⟩
     have hcc:(cs != cs)=false:=by rw[bne_eq_false_iff_eq]
     have HCN:=Lib.hid hcn;have HCS:=Lib.hid hcs
     rw[← hcs]
     clear hcn hcs
     go_upto_region 11 with fail
     go_wp2_with fail
     refine(HR.out w6 Vm.out).mono ?_
     intro e w7 hr7
     obtain⟨hB7,rfl⟩:=(rapp_bad hr7 HCN.out)
     have Jk:=Lib.hid (Vm.out.trans (hB7.mono Vm.out.size))
     have HX67:=Lib.hid hB7
     clear hB7 hr7
     clear m0 m1 m2 m3 m4 m5 m6 m7 m8 m9 m10 m11 m12 m13 o0 o1 o2 o3 o4 o5 o6 o7 o8 o9 o10 o11 o12 o13
     obtain⟨m0,m1,m2,m3,m4,m5,m6,m7,m8,m9,m10,m11,m12,m13⟩:=(HM.out.below Jk.out).facts
     obtain⟨o0,o1,o2,o3,o4,o5,o6,o7,o8,o9,o10,o11,o12,o13⟩:=(HO.out.below Jk.out).facts
     go_upto_region 12 with fail
     go_wp2_with fail
     refine(HWM.out w7 Jk.out).mono ?_
     rintro e w8 ⟨rfl,hB8⟩
     have HB58:=Lib.hid (Jk.out.trans (hB8.mono Jk.out.size))
     have HX78:=Lib.hid hB8
     clear hB8
     clear m0 m1 m2 m3 m4 m5 m6 m7 m8 m9 m10 m11 m12 m13 o0 o1 o2 o3 o4 o5 o6 o7 o8 o9 o10 o11 o12 o13
     have HPR8:=Lib.hid (show Uj w8 z y top L from HP.out.kept (HBR5.out.trans (HB58.out.mono HBR5.out.size)))
     obtain⟨HVA8,tz8,hzf8,hzy8⟩:Hid (zn.Valid top L)∧∃tz,Hid (xu w8 tz z top L)∧Hid (vO w8 y top L):=by
      obtain⟨h1,tz,h2,h3⟩:=HPR8.out
      exact⟨Lib.hid h1,tz,Lib.hid h2,Lib.hid h3⟩
     obtain⟨g8,gc8,hyc8,hyr8⟩:=id hzy8.out
     have HYC8:=Lib.hid hyc8;have HYR8:=Lib.hid hyr8
     clear hyc8 hyr8
     have Zh:=Lib.hid (show ∀X:World,Below w8.heap.size w8 X→Below w8.heap.size w8 X∧X.cell? ⟨y,1,none⟩=some (.slice (some ⟨g8,0,none⟩) L.length gc8)∧X.cell? ⟨y,0,none⟩=some (.string top) from fun X hX=>
      ⟨hX,(jK HYC8.out HYR8.out hX).2.1,(jK HYC8.out HYR8.out hX).1⟩)
     have HRC8:=Lib.hid (show ∀X:World,Below w8.heap.size w8 X→Calls Tryz.prog 15 #[.pointer (some ⟨z,0,none⟩)] X fun e w'=>Zg L X e w' from fun X hX=>
      uw tz8 z top L HVA8.out.small X (hzf8.out.kept hX).v)
     have HSM8:=Lib.hid (show ∀(X wA:World) (vA:Value),Below w8.heap.size w8 wA→wA.ownsRow X.heap.size 51 5 vA L.length (qG L)→Calls Tryz.prog 14 #[vA,.slice (some ⟨g8,0,none⟩) L.length gc8] wA fun e w'=>e= .returned (.bool true)∧Below wA.heap.size wA w' from fun X wA vA hA hoA=>
      Yc L (by have:=HVA8.out.small;omega) vA _ wA (qO hoA) (HYR8.out.below hA))
     have HAX8:=Lib.hid (show ∀X:World,Below w8.heap.size w8 X→Calls Tryz.prog 16 #[.pointer (some ⟨z,0,none⟩)] X fun e w'=>e= .returned (.string top)∧Below X.heap.size X w' from fun X hX=>by
      obtain⟨_,_,_,_,_,_,_,h2,_⟩:=(hzf8.out.kept hX).v.parts
      refine(ve z top _ _ _ X h2).mono ?_
      rintro e w' ⟨rfl,rfl⟩
      exact⟨rfl,Below.refl _ _⟩)
     have yc0:=(Zh.out w8 (Below.refl _ _)).2.2
     have yc1:=(Zh.out w8 (Below.refl _ _)).2.1
     go_upto_region 14 with fail
     go_cut [75] (fun s wx=>s= .bool false∧Below w8.heap.size w8 wx)
     case first=>
      go_region_held3 (fun X=>Below w8.heap.size w8 X∧X.cell? ⟨y,1,none⟩=some (.slice (some ⟨g8,0,none⟩) L.length gc8)∧X.cell? ⟨y,0,none⟩=some (.string top))
       (first | assumption | exact Zh.out _ (Below.refl _ _).drew | (go_split_ands;exact Zh.out _ (by assumption)))
       (first
        | (go_at_call 16;(with_reducible refine(HAX8.out _ (by go_split_ands;assumption)).mono ?_);rintro e wX ⟨rfl,hbX⟩;go_split_ands;have hbX2:=Below.trans (B:=w8.heap.size) (a:=w8) (by assumption) (hbX.mono (Below.size (by assumption))))
        | (go_at_call 15;(with_reducible refine(HRC8.out _ (by go_split_ands;assumption)).mono ?_);rintro e wA ⟨vA,rfl,hbA,hoA⟩;go_split_ands;have QM:=Below.trans (B:=w8.heap.size) (a:=w8) (by assumption) (hbA.mono (Below.size (by assumption))))
        | (go_at_call 14;(with_reducible refine(HSM8.out _ _ _ (by assumption) hoA).mono ?_);rintro e wB ⟨rfl,hbB⟩;have VN:=Below.trans (B:=w8.heap.size) (a:=w8) QM (hbB.mono (Below.size QM))))
      all_goals (go_wp2_with fail;go_meet;exact⟨rfl,VN⟩)
     case rest=>
     obtain⟨rfl,hBc⟩:=hcut
     obtain⟨w9,hw9⟩:∃X:World,X=wc:=⟨_,rfl⟩
     subst hw9
     have HB59:=Lib.hid (HB58.out.trans (hBc.mono HB58.out.size))
     have HX89:=Lib.hid hBc
     clear hBc yc0 yc1
     go_wp2_with fail
     go_roundw
     case rel=>exact⟨k+1,z,y,L,by omega,by go_num,rfl,rfl,Lib.hid (HPR8.out.kept HX89.out),Lib.hid (HB5.out.trans (HB59.out.mono HB5.out.size))⟩
     case measure=>simp[intOf];omega
    ·have HC0:=Lib.hid hc0;have HNE:=Lib.hid hne
     clear hc0 hne
     go_upto_region 11 with fail
     go_wp2_with fail
     refine(HR.out w6 Vm.out).mono ?_
     intro e w7 hr7
     obtain⟨hB7,rfl⟩:=(rapp_five hr7 HC0.out HNE.out)
     have Jk:=Lib.hid (Vm.out.trans (hB7.mono Vm.out.size))
     have HX67:=Lib.hid hB7
     clear hB7 hr7
     clear m0 m1 m2 m3 m4 m5 m6 m7 m8 m9 m10 m11 m12 m13 o0 o1 o2 o3 o4 o5 o6 o7 o8 o9 o10 o11 o12 o13
     obtain⟨m0,m1,m2,m3,m4,m5,m6,m7,m8,m9,m10,m11,m12,m13⟩:=(HM.out.below Jk.out).facts
     obtain⟨o0,o1,o2,o3,o4,o5,o6,o7,o8,o9,o10,o11,o12,o13⟩:=(HO.out.below Jk.out).facts
     go_upto_region 12 with fail
     go_wp2_with fail
     refine(HWM.out w7 Jk.out).mono ?_
     rintro e w8 ⟨rfl,hB8⟩
     have HB58:=Lib.hid (Jk.out.trans (hB8.mono Jk.out.size))
     have HX78:=Lib.hid hB8
     clear hB8
     clear m0 m1 m2 m3 m4 m5 m6 m7 m8 m9 m10 m11 m12 m13 o0 o1 o2 o3 o4 o5 o6 o7 o8 o9 o10 o11 o12 o13
     have HPR8:=Lib.hid (show Uj w8 z y top L from HP.out.kept (HBR5.out.trans (HB58.out.mono HBR5.out.size)))
     obtain⟨HVA8,tz8,hzf8,hzy8⟩:Hid (zn.Valid top L)∧∃tz,Hid (xu w8 tz z top L)∧Hid (vO w8 y top L):=by
      obtain⟨h1,tz,h2,h3⟩:=HPR8.out
      exact⟨Lib.hid h1,tz,Lib.hid h2,Lib.hid h3⟩
     obtain⟨g8,gc8,hyc8,hyr8⟩:=id hzy8.out
     have HYC8:=Lib.hid hyc8;have HYR8:=Lib.hid hyr8
     clear hyc8 hyr8
     have Zh:=Lib.hid (show ∀X:World,Below w8.heap.size w8 X→Below w8.heap.size w8 X∧X.cell? ⟨y,1,none⟩=some (.slice (some ⟨g8,0,none⟩) L.length gc8)∧X.cell? ⟨y,0,none⟩=some (.string top) from fun X hX=>
      ⟨hX,(jK HYC8.out HYR8.out hX).2.1,(jK HYC8.out HYR8.out hX).1⟩)
     have HRC8:=Lib.hid (show ∀X:World,Below w8.heap.size w8 X→Calls Tryz.prog 15 #[.pointer (some ⟨z,0,none⟩)] X fun e w'=>Zg L X e w' from fun X hX=>
      uw tz8 z top L HVA8.out.small X (hzf8.out.kept hX).v)
     have HSM8:=Lib.hid (show ∀(X wA:World) (vA:Value),Below w8.heap.size w8 wA→wA.ownsRow X.heap.size 51 5 vA L.length (qG L)→Calls Tryz.prog 14 #[vA,.slice (some ⟨g8,0,none⟩) L.length gc8] wA fun e w'=>e= .returned (.bool true)∧Below wA.heap.size wA w' from fun X wA vA hA hoA=>
      Yc L (by have:=HVA8.out.small;omega) vA _ wA (qO hoA) (HYR8.out.below hA))
     have HAX8:=Lib.hid (show ∀X:World,Below w8.heap.size w8 X→Calls Tryz.prog 16 #[.pointer (some ⟨z,0,none⟩)] X fun e w'=>e= .returned (.string top)∧Below X.heap.size X w' from fun X hX=>by
      obtain⟨_,_,_,_,_,_,_,h2,_⟩:=(hzf8.out.kept hX).v.parts
      refine(ve z top _ _ _ X h2).mono ?_
      rintro e w' ⟨rfl,rfl⟩
      exact⟨rfl,Below.refl _ _⟩)
     have yc0:=(Zh.out w8 (Below.refl _ _)).2.2
     have yc1:=(Zh.out w8 (Below.refl _ _)).2.1
     go_upto_region 14 with fail
     go_cut [75] (fun s wx=>s= .bool false∧Below w8.heap.size w8 wx)
     case first=>
      go_region_held3 (fun X=>Below w8.heap.size w8 X∧X.cell? ⟨y,1,none⟩=some (.slice (some ⟨g8,0,none⟩) L.length gc8)∧X.cell? ⟨y,0,none⟩=some (.string top))
       (first | assumption | exact Zh.out _ (Below.refl _ _).drew | (go_split_ands;exact Zh.out _ (by assumption)))
       (first
        | (go_at_call 16;(with_reducible refine(HAX8.out _ (by go_split_ands;assumption)).mono ?_);rintro e wX ⟨rfl,hbX⟩;go_split_ands;have hbX2:=Below.trans (B:=w8.heap.size) (a:=w8) (by assumption) (hbX.mono (Below.size (by assumption))))
        | (go_at_call 15;(with_reducible refine(HRC8.out _ (by go_split_ands;assumption)).mono ?_);rintro e wA ⟨vA,rfl,hbA,hoA⟩;go_split_ands;have QM:=Below.trans (B:=w8.heap.size) (a:=w8) (by assumption) (hbA.mono (Below.size (by assumption))))
        | (go_at_call 14;(with_reducible refine(HSM8.out _ _ _ (by assumption) hoA).mono ?_);rintro e wB ⟨rfl,hbB⟩;have VN:=Below.trans (B:=w8.heap.size) (a:=w8) QM (hbB.mono (Below.size QM))))
      all_goals (go_wp2_with fail;go_meet;exact⟨rfl,VN⟩)
     case rest=>
     obtain⟨rfl,hBc⟩:=hcut
     obtain⟨w9,hw9⟩:∃X:World,X=wc:=⟨_,rfl⟩
     subst hw9
     have HB59:=Lib.hid (HB58.out.trans (hBc.mono HB58.out.size))
     have HX89:=Lib.hid hBc
     clear hBc yc0 yc1
     go_wp2_with fail
     go_roundw
     case rel=>exact⟨k+1,z,y,L,by omega,by go_num,rfl,rfl,Lib.hid (HPR8.out.kept HX89.out),Lib.hid (HB5.out.trans (HB59.out.mono HB5.out.size))⟩
     case measure=>simp[intOf];omega
    ·have HC0:=Lib.hid hc0;have HNE:=Lib.hid hne;have HS1:=Lib.hid hs1;have HZ1:=Lib.hid hzf
     clear hc0 hne hs1 hzf
     go_upto_region 11 with fail
     go_wp2_with fail
     refine(HR.out w6 Vm.out).mono ?_
     intro e w7 hr7
     obtain⟨hB7,⟨ya,L2,hs2,rfl,hy2⟩⟩:=(rapp_ok hr7 HC0.out HNE.out)
     have Jk:=Lib.hid (Vm.out.trans (hB7.mono Vm.out.size))
     have HX67:=Lib.hid hB7
     clear hB7 hr7
     clear m0 m1 m2 m3 m4 m5 m6 m7 m8 m9 m10 m11 m12 m13 o0 o1 o2 o3 o4 o5 o6 o7 o8 o9 o10 o11 o12 o13
     obtain⟨m0,m1,m2,m3,m4,m5,m6,m7,m8,m9,m10,m11,m12,m13⟩:=(HM.out.below Jk.out).facts
     obtain⟨o0,o1,o2,o3,o4,o5,o6,o7,o8,o9,o10,o11,o12,o13⟩:=(HO.out.below Jk.out).facts
     go_upto_region 12 with fail
     go_wp2_with fail
     refine(HWM.out w7 Jk.out).mono ?_
     rintro e w8 ⟨rfl,hB8⟩
     have HB58:=Lib.hid (Jk.out.trans (hB8.mono Jk.out.size))
     have HX78:=Lib.hid hB8
     clear hB8
     clear m0 m1 m2 m3 m4 m5 m6 m7 m8 m9 m10 m11 m12 m13 o0 o1 o2 o3 o4 o5 o6 o7 o8 o9 o10 o11 o12 o13
     have HPR8:=Lib.hid (show Uj w8 z y top L from HP.out.kept (HBR5.out.trans (HB58.out.mono HBR5.out.size)))
     obtain⟨HVA8,tz8,hzf8,hzy8⟩:Hid (zn.Valid top L)∧∃tz,Hid (xu w8 tz z top L)∧Hid (vO w8 y top L):=by
      obtain⟨h1,tz,h2,h3⟩:=HPR8.out
      exact⟨Lib.hid h1,tz,Lib.hid h2,Lib.hid h3⟩
     obtain⟨g8,gc8,hyc8,hyr8⟩:=id hzy8.out
     have HYC8:=Lib.hid hyc8;have HYR8:=Lib.hid hyr8
     clear hyc8 hyr8
     have Zh:=Lib.hid (show ∀X:World,Below w8.heap.size w8 X→Below w8.heap.size w8 X∧X.cell? ⟨y,1,none⟩=some (.slice (some ⟨g8,0,none⟩) L.length gc8)∧X.cell? ⟨y,0,none⟩=some (.string top) from fun X hX=>
      ⟨hX,(jK HYC8.out HYR8.out hX).2.1,(jK HYC8.out HYR8.out hX).1⟩)
     have HRC8:=Lib.hid (show ∀X:World,Below w8.heap.size w8 X→Calls Tryz.prog 15 #[.pointer (some ⟨z,0,none⟩)] X fun e w'=>Zg L X e w' from fun X hX=>
      uw tz8 z top L HVA8.out.small X (hzf8.out.kept hX).v)
     have HSM8:=Lib.hid (show ∀(X wA:World) (vA:Value),Below w8.heap.size w8 wA→wA.ownsRow X.heap.size 51 5 vA L.length (qG L)→Calls Tryz.prog 14 #[vA,.slice (some ⟨g8,0,none⟩) L.length gc8] wA fun e w'=>e= .returned (.bool true)∧Below wA.heap.size wA w' from fun X wA vA hA hoA=>
      Yc L (by have:=HVA8.out.small;omega) vA _ wA (qO hoA) (HYR8.out.below hA))
     have HAX8:=Lib.hid (show ∀X:World,Below w8.heap.size w8 X→Calls Tryz.prog 16 #[.pointer (some ⟨z,0,none⟩)] X fun e w'=>e= .returned (.string top)∧Below X.heap.size X w' from fun X hX=>by
      obtain⟨_,_,_,_,_,_,_,h2,_⟩:=(hzf8.out.kept hX).v.parts
      refine(ve z top _ _ _ X h2).mono ?_
      rintro e w' ⟨rfl,rfl⟩
      exact⟨rfl,Below.refl _ _⟩)
     have yc0:=(Zh.out w8 (Below.refl _ _)).2.2
     have yc1:=(Zh.out w8 (Below.refl _ _)).2.1
     go_upto_region 14 with fail
     go_cut [75] (fun s wx=>s= .bool false∧Below w8.heap.size w8 wx)
     case first=>
      go_region_held3 (fun X=>Below w8.heap.size w8 X∧X.cell? ⟨y,1,none⟩=some (.slice (some ⟨g8,0,none⟩) L.length gc8)∧X.cell? ⟨y,0,none⟩=some (.string top))
       (first | assumption | exact Zh.out _ (Below.refl _ _).drew | (go_split_ands;exact Zh.out _ (by assumption)))
       (first
        | (go_at_call 16;(with_reducible refine(HAX8.out _ (by go_split_ands;assumption)).mono ?_);rintro e wX ⟨rfl,hbX⟩;go_split_ands;have hbX2:=Below.trans (B:=w8.heap.size) (a:=w8) (by assumption) (hbX.mono (Below.size (by assumption))))
        | (go_at_call 15;(with_reducible refine(HRC8.out _ (by go_split_ands;assumption)).mono ?_);rintro e wA ⟨vA,rfl,hbA,hoA⟩;go_split_ands;have QM:=Below.trans (B:=w8.heap.size) (a:=w8) (by assumption) (hbA.mono (Below.size (by assumption))))
        | (go_at_call 14;(with_reducible refine(HSM8.out _ _ _ (by assumption) hoA).mono ?_);rintro e wB ⟨rfl,hbB⟩;have VN:=Below.trans (B:=w8.heap.size) (a:=w8) QM (hbB.mono (Below.size QM))))
      all_goals (go_wp2_with fail;go_meet;exact⟨rfl,VN⟩)
     case rest=>
     have hva0:=zn.QC HNE.out
     obtain rfl:L2=L1:=hs2.eq HS1.out hva0.named (zn.V9 (zn.Qa (zn.Q7 hva0.rules)))
     have HV2:=Lib.hid (show zn.Valid top L2 from zn.QC (zn.newE_of HS1.out.1.symm HNE.out))
     have HPR7:=Lib.hid (show Uj w7 za ya top L2 from⟨HV2.out,ta,HZ1.out.kept HX67.out,hy2⟩)
     clear hva0 hs2 hy2
     obtain⟨rfl,hBc⟩:=hcut
     obtain⟨w9,hw9⟩:∃X:World,X=wc:=⟨_,rfl⟩
     subst hw9
     have HB59:=Lib.hid (HB58.out.trans (hBc.mono HB58.out.size))
     have HX89:=Lib.hid hBc
     clear hBc yc0 yc1
     have HPR9:=Lib.hid (HPR7.out.kept (HX78.out.trans (HX89.out.mono HX78.out.size)))
     obtain⟨HVA9,tz9,hzf9,hzy9⟩:Hid (zn.Valid top L2)∧∃tz,Hid (xu w9 tz za top L2)∧Hid (vO w9 ya top L2):=by
      obtain⟨h1,tz,h2,h3⟩:=HPR9.out
      exact⟨Lib.hid h1,tz,Lib.hid h2,Lib.hid h3⟩
     obtain⟨g9,gc9,hyc9,hyr9⟩:=id hzy9.out
     have HYC9:=Lib.hid hyc9;have HYR9:=Lib.hid hyr9
     clear hyc9 hyr9
     have HALL9:=Lib.hid (show ∀X:World,Below w9.heap.size w9 X→Below w9.heap.size w9 X∧X.cell? ⟨ya,1,none⟩=some (.slice (some ⟨g9,0,none⟩) L2.length gc9)∧X.cell? ⟨ya,0,none⟩=some (.string top) from fun X hX=>
      ⟨hX,(jK HYC9.out HYR9.out hX).2.1,(jK HYC9.out HYR9.out hX).1⟩)
     have HRC9:=Lib.hid (show ∀X:World,Below w9.heap.size w9 X→Calls Tryz.prog 15 #[.pointer (some ⟨za,0,none⟩)] X fun e w'=>Zg L2 X e w' from fun X hX=>
      uw tz9 za top L2 HVA9.out.small X (hzf9.out.kept hX).v)
     have HSM9:=Lib.hid (show ∀(X wA:World) (vA:Value),Below w9.heap.size w9 wA→wA.ownsRow X.heap.size 51 5 vA L2.length (qG L2)→Calls Tryz.prog 14 #[vA,.slice (some ⟨g9,0,none⟩) L2.length gc9] wA fun e w'=>e= .returned (.bool true)∧Below wA.heap.size wA w' from fun X wA vA hA hoA=>
      Yc L2 (by have:=HVA9.out.small;omega) vA _ wA (qO hoA) (HYR9.out.below hA))
     have HAX9:=Lib.hid (show ∀X:World,Below w9.heap.size w9 X→Calls Tryz.prog 16 #[.pointer (some ⟨za,0,none⟩)] X fun e w'=>e= .returned (.string top)∧Below X.heap.size X w' from fun X hX=>by
      obtain⟨_,_,_,_,_,_,_,h2,_⟩:=(hzf9.out.kept hX).v.parts
      refine(ve za top _ _ _ X h2).mono ?_
      rintro e w' ⟨rfl,rfl⟩
      exact⟨rfl,Below.refl _ _⟩)
     have yc0:=(HALL9.out w9 (Below.refl _ _)).2.2
     have yc1:=(HALL9.out w9 (Below.refl _ _)).2.1
     have q1:=Q1.out;have q2:=Q2.out
     go_upto_region 18 with fail
     go_cut [96] (fun s wx=>s= .bool false∧Below w9.heap.size w9 wx)
     case first=>
      go_region_held3 (fun X=>Below w9.heap.size w9 X∧X.cell? ⟨ya,1,none⟩=some (.slice (some ⟨g9,0,none⟩) L2.length gc9)∧X.cell? ⟨ya,0,none⟩=some (.string top))
       (first | assumption | exact HALL9.out _ (Below.refl _ _).drew | (go_split_ands;exact HALL9.out _ (by assumption)))
       (first
        | (go_at_call 16;(with_reducible refine(HAX9.out _ (by go_split_ands;assumption)).mono ?_);rintro e wX ⟨rfl,hbX⟩;go_split_ands;have hbX2:=Below.trans (B:=w9.heap.size) (a:=w9) (by assumption) (hbX.mono (Below.size (by assumption))))
        | (go_at_call 15;(with_reducible refine(HRC9.out _ (by go_split_ands;assumption)).mono ?_);rintro e wA ⟨vA,rfl,hbA,hoA⟩;go_split_ands;have QM:=Below.trans (B:=w9.heap.size) (a:=w9) (by assumption) (hbA.mono (Below.size (by assumption))))
        | (go_at_call 14;(with_reducible refine(HSM9.out _ _ _ (by assumption) hoA).mono ?_);rintro e wB ⟨rfl,hbB⟩;have VN:=Below.trans (B:=w9.heap.size) (a:=w9) QM (hbB.mono (Below.size QM))))
      all_goals (go_wp2_with fail;go_meet;exact⟨rfl,VN⟩)
     case rest=>
     obtain⟨rfl,hBd⟩:=hcut
     obtain⟨wD,hwD⟩:∃X:World,X=wc:=⟨_,rfl⟩
     subst hwD
     have HBD:=Lib.hid (HB59.out.trans (hBd.mono HB59.out.size))
     have HPRD:=Lib.hid (HPR9.out.kept hBd)
     clear hBd yc0 yc1 q1 q2
     go_wp2_with fail
     go_roundw
     case rel=>exact⟨k+1,za,ya,L2,by omega,by go_num,rfl,rfl,HPRD,Lib.hid (HB5.out.trans (HBD.out.mono HB5.out.size))⟩
     case measure=>simp[intOf];omega
   ·obtain rfl:k=N.length:=by omega
    go_wp2_with fail
    go_ret
    exact⟨rfl,HB.out⟩
end Go.Proofs.YtdjjemajfphjaaaGreat
