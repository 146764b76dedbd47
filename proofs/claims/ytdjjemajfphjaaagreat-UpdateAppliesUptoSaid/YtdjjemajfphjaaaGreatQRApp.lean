import Derived.Test.YtdjjemajfphjaaaGreatQRByt
import Derived.Test.YtdjjemajfphjaaaGreatQRChk
import Derived.Test.YtdjjemajfphjaaaGreatQUpdZ
set_option maxRecDepth 100000
set_option maxHeartbeats 16000000
namespace Go.Proofs.YtdjjemajfphjaaaGreat
open Go.RowKit Go.Shelf nm od
def QU (qf:ByteArray)(L:List Rec)(h:Hd)(qs:List Qn)(an au ad:List Rec)(w:World)(e:Ending)(w':World):Prop:=Below w.heap.size w w'∧
 ((up.zN qf L h qs an au ad≠0∧e= .returned (.tuple #[.pointer none,.int .i64 (up.zN qf L h qs an au ad)]))∨
   (up.zN qf L h qs an au ad=0∧zn.yY qf (up.Yf qf L au)≠none∧e= .returned (.tuple #[.pointer none,.int .i64 5]))∨
   (up.zN qf L h qs an au ad=0∧zn.yY qf (up.Yf qf L au)=none∧∃y L',zQ (up.Yf qf L au) L'∧e= .returned (.tuple #[.pointer (some ⟨y,0,none⟩),.int .i64 0])∧vO w' y qf L'))
namespace up
theorem bytes4 (v:Nat):vC v 4=⟨#[UInt8.ofNat (v / 16777216),UInt8.ofNat (v / 65536),UInt8.ofNat (v / 256),UInt8.ofNat v]⟩:=by
 have h:∀n:Nat,UInt8.ofNat (n % 256)=UInt8.ofNat n:=fun n=>by
  apply UInt8.toNat_inj.1
  rw[UInt8.toNat_ofNat',UInt8.toNat_ofNat',Nat.mod_mod]
 unfold vC vC vC vC vC
 rw[h,h,h,h]
 have e2:v / 256 / 256=v / 65536:=by rw[Nat.div_div_eq_div_mul]
 have e3:v / 256 / 256 / 256=v / 16777216:=by rw[Nat.div_div_eq_div_mul,Nat.div_div_eq_div_mul]
 rw[e3,e2]
 apply ByteArray.ext
 simp
def YI (pb:Bool)(ser:Int)(x:Rec):Rec:=if pb=true then x else jG ser x
theorem out_end (qf:ByteArray)(L au:List Rec):Yf qf L au=(zK qf L au).map (YI (decide ((zK qf L au).Perm L)) (serL qf L)):=by
 by_cases h:(zK qf L au).Perm L
 ·rw[out_same h,decide_eq_true h]
  have:YI true (serL qf L)=id:=by funext x;rfl
  rw[this,List.map_id]
 ·rw[out_other h,decide_eq_false h];rfl
theorem chk0_msg {qf:ByteArray}{L:List Rec}{h:Hd}{qs:List Qn}{an au ad:List Rec}(h0:zN qf L h qs an au ad=0):wi.jI h qs an au ad=true:=by
 cases hh:xn h qs an au ad
 ·rw[Uf hh]at h0;cases h0
 ·exact(xC hh).2.1
end up
theorem rapply_any (z:Nat)(qf:ByteArray)(hap:qf.size≤1099511627776)(L:List Rec)(hva:zn.Valid qf L)(h:Hd)(qs:List Qn)(an au ad:List Rec)(hq:qs.length≤1000000000000)(ha:an.length≤1000000000000)(hu:au.length≤1000000000000)(hd:ad.length≤1000000000000)(q a u d:Value)(w:World)
 (sq:∀x∈qs,x.name.size≤1099511627776) (sa:∀x∈an,x.owner.size≤1099511627776) (su:∀x∈au,x.owner.size≤1099511627776) (sd:∀x∈ad,x.owner.size≤1099511627776) (hz:vO w z qf L)
 (rq:kJ w q qs) (ra:qy w a an) (ru:qy w u au) (rd:qy w d ad):
 Calls Tryz.prog 13 #[.pointer (some ⟨z,0,none⟩),Yg h q a u d] w fun e w'=>QU qf L h qs an au ad w e w':=by
 obtain⟨kX,uz,uy,jd,jc⟩:=info_parts jM
 have kZ:=Lib.hid uz;have kY:=Lib.hid uy;have yK:=Lib.hid jd;have yJ:=Lib.hid jc
 clear uz uy jd jc
 obtain⟨w1,hw1⟩:∃X,X=w.alloc (.cells (Yh h q a u d).toArray 25):=⟨_,rfl⟩
 obtain⟨hB1,hs1,hm1⟩:=uJ hw1
 obtain⟨bm,hbm⟩:∃b,b=w.heap.size:=⟨_,rfl⟩
 rw[← hbm]at hm1
 have CC:=Lib.hid (rcheck6_any z qf hap L hva h qs an au ad hq ha hu hd q a u d w1 sq sa su sd (hz.below hB1) (rq.below hB1) (ra.below hB1) (ru.below hB1) (rd.below hB1))
 have HM:=Lib.hid hm1;have HVA:=Lib.hid hva;have HW1:=Lib.hid hw1;have HBM:=Lib.hid hbm;have HB1:=Lib.hid hB1
 have HZ:=Lib.hid (hz.below hB1);have HU:=Lib.hid (ru.below hB1);have SU:=Lib.hid su
 have HIN:=Lib.hid (up.valid_in hva (up.Xk hva))
 obtain⟨qa,qc,rfl,-⟩:=id rq
 obtain⟨aa,ac,rfl,-⟩:=id ra
 obtain⟨ua,uc,rfl,-⟩:=id ru
 obtain⟨da,dc,rfl,-⟩:=id rd
 clear hva hw1 hbm hz rq ra ru rd hB1 hs1 hm1 sq sa su sd
 obtain⟨m0,m1,m2,m3,m4,m5,m6,m7,m8,m9,m10,m11,m12,m13⟩:=(HM.out.below (Below.refl _ _)).facts
 go_enter Tryz.func13,Tryz.ntmps13
 go_upto_region 1 with fail
 rw[← HW1.out,← HBM.out]
 go_wp2_with fail
 refine CC.out.mono ?_
 rintro e w2 ⟨rfl,hB2⟩
 have Uv:=Lib.hid hB2
 have HB2:=Lib.hid (HB1.out.trans (hB2.mono HB1.out.size))
 obtain⟨cs,hcs⟩:∃cs,cs=up.zN qf L h qs an au ad:=⟨_,rfl⟩
 rw[← hcs]
 have HCS:=Lib.hid hcs
 clear m0 m1 m2 m3 m4 m5 m6 m7 m8 m9 m10 m11 m12 m13
 clear hB2 hcs
 by_cases hc0:cs=0
 ·have d0:(cs != 0)=false:=by rw[bne_eq_false_iff_eq];exact hc0
  have HC0:=Lib.hid (show up.zN qf L h qs an au ad=0 by rw[← HCS.out];exact hc0)
  have HMS:=Lib.hid (up.chk0_msg HC0.out)
  have HCIN:=Lib.hid (up.msg_in HMS.out (up.msg_ok HMS.out).2)
  have HLEN:=Lib.hid (up.msg_lens HMS.out).2.1
  clear hc0
  obtain⟨zg,zcap,hzc,-⟩:=HZ.out.below Uv.out
  have z0:w2.cell? ⟨z,0,none⟩=some (.string qf):=by rw[qg hzc];rfl
  have z1:w2.cell? ⟨z,1,none⟩=some (.slice (some ⟨zg,0,none⟩) L.length zcap):=by rw[qg hzc];rfl
  clear hzc
  obtain⟨m0,m1,m2,m3,m4,m5,m6,m7,m8,m9,m10,m11,m12,m13⟩:=(HM.out.below Uv.out).facts
  have HL0:=Lib.hid (show qy w2 (.slice (some ⟨zg,0,none⟩) L.length zcap) L by
   obtain⟨g',c',hz',hr'⟩:=HZ.out.below Uv.out
   have e1:w2.cell? ⟨z,1,none⟩=some (.slice (some ⟨g',0,none⟩) L.length c'):=by rw[qg hz'];rfl
   rw[z1]at e1
   have e2:=Option.some.inj e1
   rw[e2];exact hr')
  go_wp2_with fail
  clear m0 m1 m2 m3 m4 m5 m6 m7 m8 m9 m10 m11 m12 m13
  clear z0 z1 d0
  go_loopw [31,7] (fun kv lv wr=>∃k:Nat,k≤au.length∧kv= .int .i64 (k:Int)∧Hid (qy wr lv (up.zK qf L (au.take k))∧Below w2.heap.size w2 wr)) (fun kv _ _=>au.length-(intOf kv).toNat)
  case atStart=>exact⟨0,Nat.zero_le _,rfl,Lib.hid ⟨HL0.out,Below.refl _ _⟩⟩
  case round=>
   obtain⟨k,hk,rfl,HR⟩:=hrel
   obtain⟨w3,hw3⟩:∃X:World,X=wr:=⟨_,rfl⟩
   subst hw3
   have Z7:=Lib.hid (Uv.out.trans (HR.out.2.mono Uv.out.size))
   obtain⟨la,lc,hlv,-⟩:=id HR.out.1
   subst hlv
   by_cases hlt:k<au.length
   ·obtain⟨bb,off,rfl⟩:=yI HU.out (Nat.lt_of_le_of_lt (Nat.zero_le _) hlt)
    have hki:(k:Int)<(au.length:Int):=by omega
    obtain⟨c0,c1,c2,c3,c4⟩:=yP (HU.out.below Z7.out) hlt
    obtain⟨x,hx⟩:∃x,x=au[k]:=⟨_,rfl⟩
    rw[← hx]at c0 c1 c2 c3 c4
    obtain⟨wa,hwa⟩:∃W,W=w3.alloc (.cells (recC x).toArray 51):=⟨_,rfl⟩
    obtain⟨hBa,hsa,hxa⟩:=qM w3 wa x hwa
    obtain⟨bx,hbx⟩:∃b,b=w3.heap.size:=⟨_,rfl⟩
    rw[← hbx]at hxa
    have HWA:=Lib.hid hwa;have HX:=Lib.hid hx;have HLT:=Lib.hid hlt;have HBX:=Lib.hid hbx;have HAL:=Lib.hid hBa
    have HB1a:=Lib.hid (Z7.out.trans (hBa.mono Z7.out.size));have HB2a:=Lib.hid (HR.out.2.trans (hBa.mono HR.out.2.size))
    obtain⟨x0,x1,x2,x3,x4⟩:=id hxa
    clear hwa hx hBa hsa hxa hbx
    go_upto_region 8 with fail
    rw[← HWA.out,← HBX.out]
    clear c0 c1 c2 c3 c4 hki
    obtain⟨zg,zcap,hzc,-⟩:=HZ.out.below HB1a.out
    have z0:wa.cell? ⟨z,0,none⟩=some (.string qf):=by rw[qg hzc];rfl
    have z1:wa.cell? ⟨z,1,none⟩=some (.slice (some ⟨zg,0,none⟩) L.length zcap):=by rw[qg hzc];rfl
    clear hzc
    have k0:=qh x0;have k1:=qh x1;have k2:=qh x2;have k3:=qh x3;have k4:=qh x4;have k5:=qh z0
    clear x0 x1 x2 x3 x4 z0 z1
    refine ze (C:=fun X=>∃p,X=gw wa p) 6 (by kernel_rfl) (by kernel_rfl) (uL wa) ?_
    simp only[List.take_succ_cons,List.take_zero,List.drop_succ_cons,List.drop_zero]
    repeat (with_reducible refine wpQuiet_step (fun K hK=>?_);go_simp;first | (with_reducible refine hK _ ?_;clear hK K))
    with_reducible refine wpQuiet_nil ?_
    intro U hU
    have hBU:Below wa.heap.size wa U:=by obtain⟨p,rfl⟩:=hU;exact qp _ _
    have HB1U:=Lib.hid (HB1a.out.trans (hBU.mono HB1a.out.size));have HB2U:=Lib.hid (HB2a.out.trans (hBU.mono HB2a.out.size))
    have HCG:=Lib.hid (rchanged_any qf hap (up.zK qf L (au.take k)) (Nat.le_trans (up.vK _ _ _) (by have h1:=HVA.out.small;have h2:=List.length_take_le k au;have h3:=HLEN.out;omega)) x (by rw[HX.out];exact SU.out _ (List.getElem_mem HLT.out)) (fun hc=>HCIN.out x (by rw[HX.out];exact List.getElem_mem HLT.out) hc) (up.xE HIN.out fun r hr=>HCIN.out r (List.mem_of_mem_take hr)) _ U (HR.out.1.below (HAL.out.trans (hBU.mono HAL.out.size))))
    clear hU hBU k0 k1 k2 k3 k4 k5
    go_wp2_with fail
    refine HCG.out.mono ?_
    rintro e w5 ⟨v5,rfl,hB5,hr5⟩
    have HR5:=Lib.hid (show qy w5 v5 (up.zK qf L (au.take (k+1))) by
     rw[List.take_succ_eq_append_getElem HLT.out,up.Qt,← HX.out];exact hr5)
    have HB5:=Lib.hid (HB2U.out.trans (hB5.mono HB2U.out.size))
    have hlk:=HLT.out
    clear hB5 hr5
    go_wp2_with fail
    go_roundw
    case rel=>exact⟨k+1,by omega,by go_num,Lib.hid ⟨HR5.out,HB5.out⟩⟩
    case measure=>simp[intOf];omega
   ·obtain rfl:k=au.length:=by omega
    have hR:=HR.out
    rw[List.take_length]at hR
    obtain⟨N,hN⟩:∃N,N=up.zK qf L au:=⟨_,rfl⟩
    have hle:(up.zK qf L (au.take au.length)).length=N.length:=by rw[List.take_length,hN]
    rw[hle]
    rw[← hN]at hR
    have HNN:=Lib.hid hN
    have HNIN:=Lib.hid (show ∀y∈N,up.jO y by rw[hN];exact up.xE HIN.out HCIN.out)
    have HNLEN:=Lib.hid (show N.length≤100000 by
     rw[hN]
     have h1:=up.vK qf au L
     have h2:=HVA.out.small
     have h3:=HLEN.out
     omega)
    have hNb:=HNLEN.out
    have HR3':=hR.1
    have HRN:=Lib.hid (show qy w3 (.slice la N.length lc) N by
     obtain⟨a',c',hv',h1,h2⟩:=hR.1
     rw[hv']
     exact⟨a',c',rfl,h1,h2⟩)
    have HB23:=Lib.hid hR.2
    obtain⟨ser,hser⟩:∃s,s=up.serL qf L:=⟨_,rfl⟩
    obtain⟨pb,hpb⟩:∃pb,pb=decide (N.Perm L):=⟨_,rfl⟩
    have HPB:=Lib.hid hpb
    have HOUT:=Lib.hid (show up.Yf qf L au=N.map (up.YI pb ser) by rw[hser,hpb,hN];exact up.out_end qf L au)
    have HSER:=Lib.hid (show ∀X,Below w1.heap.size w1 X→Calls Tryz.prog 50 #[.pointer (some ⟨z,0,none⟩)] X fun e w'=>e= .returned (.int .i64 ser)∧Below X.heap.size X w' from fun X hX=>by
     obtain⟨r0,rest,hrow0,hd0⟩:=Xp HVA.out
     have he:ser=zn.xL r0.data:=by rw[hser];unfold up.serL;rw[hrow0]
     rw[he]
     exact rserial_any z qf L HVA.out r0 rest hrow0 X (HZ.out.below hX))
    have Z7:=Lib.hid Z7.out
    have HF:=Lib.hid (show ∀y:Rec,up.YI pb ser y=if pb=true then y else up.jG ser y from fun y=>rfl)
    have HLb:=Lib.hid (show L.length≤1000000 by have:=HVA.out.small;omega)
    clear hlt HR hR hN hle HR3' hser hpb
    go_wp2_with fail
    go_loopw [45,10] (fun kv ov wr=>∃k:Nat,k≤N.length∧kv= .int .i64 (k:Int)∧wr.ownsRow w3.heap.size 51 5 ov ((N.take k).map (up.YI pb ser)).length (qG ((N.take k).map (up.YI pb ser)))∧Below w3.heap.size w3 wr) (fun kv _ _=>N.length-(intOf kv).toNat)
    case atStart=>exact⟨0,Nat.zero_le _,rfl,World.ownsRow_nil _ _ _ _,Below.refl _ _⟩
    case round=>
     obtain⟨kq,hkq,rfl,hown,hB⟩:=hrel
     obtain⟨w6,hw6⟩:∃X:World,X=wr:=⟨_,rfl⟩
     subst hw6
     obtain⟨oa,oc,rfl,-⟩:=qC hown
     by_cases ui:kq<N.length
     ·obtain⟨bb,off,rfl⟩:=yI HRN.out (Nat.lt_of_le_of_lt (Nat.zero_le _) ui)
      obtain⟨K,hK⟩:∃K,K=(N.take kq).map (up.YI pb ser):=⟨_,rfl⟩
      rw[← hK]at hown ⊢
      have hKl:K.length≤N.length:=by rw[hK,List.length_map,List.length_take];omega
      have Un:=Lib.hid hown;have HBq:=Lib.hid hB;have HK:=Lib.hid hK
      clear hown hB hK
      have hki:(kq:Int)<(N.length:Int):=by omega
      obtain⟨c0,c1,c2,c3,c4⟩:=yP (HRN.out.below HBq.out) ui
      obtain⟨y,hy⟩:∃x,x=N[kq]:=⟨_,rfl⟩
      rw[← hy]at c0 c1 c2 c3 c4
      obtain⟨wa,hwa⟩:∃W,W=w6.alloc (.cells (recC y).toArray 51):=⟨_,rfl⟩
      obtain⟨hBa,hsa,hya⟩:=qM w6 wa y hwa
      have hhy:wa.heap[w6.heap.size]? =some (.cells (recC y).toArray 51 (0,0)):=by rw[hwa];exact qo rfl
      obtain⟨by_,hby⟩:∃b,b=w6.heap.size:=⟨_,rfl⟩
      rw[← hby]at hya hhy
      have HWA:=Lib.hid hwa;have HY:=Lib.hid hy;have HLT:=Lib.hid ui;have HBY:=Lib.hid hby;have QX:=Lib.hid (show by_<wa.heap.size by omega);have HHY:=Lib.hid hhy
      have HBA:=Lib.hid (HBq.out.trans (hBa.mono HBq.out.size));have HB1A:=Lib.hid (Z7.out.trans (HBA.out.mono Z7.out.size));have YE:=Lib.hid (ownsRow_below Un.out hBa)
      clear hwa hy hBa hsa hya hby hhy
      have HYI:=Lib.hid (show up.jO y by rw[HY.out];exact HNIN.out _ (List.getElem_mem HLT.out))
      have HKN:=Lib.hid (show(N.take (kq+1)).map (up.YI pb ser)=K ++ [up.YI pb ser y] by rw[List.take_succ_eq_append_getElem HLT.out,List.map_append,HK.out,HY.out];rfl)
      go_upto_region 14 with fail
      rw[← HWA.out,← HBY.out]
      clear c0 c1 c2 c3 c4 hki
      have y0:wa.cell? ⟨by_,0,none⟩=some (.string y.owner):=by rw[qg HHY.out];rfl
      have y1:wa.cell? ⟨by_,1,none⟩=some (.int .i64 y.typ):=by rw[qg HHY.out];rfl
      have y2:wa.cell? ⟨by_,2,none⟩=some (.int .i64 y.cls):=by rw[qg HHY.out];rfl
      have y3:wa.cell? ⟨by_,3,none⟩=some (.int .i64 y.ttl):=by rw[qg HHY.out];rfl
      have y4:wa.cell? ⟨by_,4,none⟩=some (.string y.data):=by rw[qg HHY.out];rfl
      by_cases j6:y.typ=6
      ·have e6:(y.typ == 6)=true:=by rw[beq_iff_eq];exact j6
       obtain⟨n,hn,hn2⟩:=up.Xc (HYI.out.2.2 j6).1
       have hn3:(n:Int)<4294967296:=by omega
       have HNB:=Lib.hid hn;have HJ6:=Lib.hid j6;have HN2:=Lib.hid hn2
       have CNY:=Lib.hid (show ∀X,Calls Tryz.prog 49 #[zB y] X fun e w'=>e= .returned (.int .i64 (n:Int))∧Below X.heap.size X w' from fun X=>by
        rw[← hn];exact YS y (HYI.out.2.2 j6).1 (Nat.le_trans (HYI.out.2.2 j6).2 (by decide)) X)
       clear j6 hn hn2
       go_wp2_with fail
       refine(CNY.out wa).mono ?_
       rintro e w7 ⟨rfl,hB7⟩
       have HB7:=Lib.hid (HBA.out.trans (hB7.mono HBA.out.size))
       have HB1_7:=Lib.hid (HB1A.out.trans (hB7.mono HB1A.out.size))
       have uS:=Lib.hid (ownsRow_below YE.out hB7)
       have kH:=Lib.hid ((hB7.block by_ (qw HHY.out)).trans HHY.out)
       clear hB7
       clear y0 y1 y2 y3 y4
       go_wp2_with fail
       refine(HSER.out w7 HB1_7.out).mono ?_
       rintro e w8 ⟨rfl,hB8⟩
       have HB8:=Lib.hid (HB7.out.trans (hB8.mono HB7.out.size))
       have HB1_8:=Lib.hid (HB1_7.out.trans (hB8.mono HB1_7.out.size))
       have Uo:=Lib.hid (ownsRow_below uS.out hB8)
       have HHY8:=Lib.hid ((hB8.block by_ (qw kH.out)).trans kH.out)
       clear hB8
       by_cases hs:(n:Int)=ser
       ·have e7:((n:Int) == ser)=true:=by rw[beq_iff_eq];exact hs
        obtain⟨zg2,zcap2,hzc2,hzr2⟩:=HZ.out.below HB1_8.out
        have z0:w8.cell? ⟨z,0,none⟩=some (.string qf):=by rw[qg hzc2];rfl
        have z1:w8.cell? ⟨z,1,none⟩=some (.slice (some ⟨zg2,0,none⟩) L.length zcap2):=by rw[qg hzc2];rfl
        have CSM:=Lib.hid (show Calls Tryz.prog 51 #[.slice (some ⟨bb,off,none⟩) N.length lc,.slice (some ⟨zg2,0,none⟩) L.length zcap2] w8 fun e w'=>e= .returned (.bool pb)∧Below w8.heap.size w8 w' by
         have h1:=rsame_any N L (by have:=HNLEN.out;omega) HLb.out _ _ w8 (HRN.out.below HB8.out) hzr2
         rw[← HPB.out]at h1
         exact h1)
        have HS:=Lib.hid hs
        clear hzc2 hzr2 hs
        go_wp2_with fail
        refine CSM.out.mono ?_
        rintro e w9 ⟨rfl,hB9⟩
        have HB9:=Lib.hid (HB8.out.trans (hB9.mono HB8.out.size))
        have HB1_9:=Lib.hid (HB1_8.out.trans (hB9.mono HB1_8.out.size))
        have HROW9:=Lib.hid (ownsRow_below Uo.out hB9)
        have V4:=Lib.hid ((hB9.block by_ (qw HHY8.out)).trans HHY8.out)
        clear hB9
        clear z0 z1
        cases pb
        ·obtain⟨m,hm,hm2⟩:=next_nat HN2.out
         have HNX:=Lib.hid (show up.YI false ser y= { y with data:=up.Q0 y.data m} by
          rw[HF.out]
          show up.jG ser y=_
          unfold up.jG
          rw[if_pos ⟨HJ6.out,by rw[HNB.out];exact HS.out⟩,HNB.out,hm,Int.toNat_natCast])
         have CBY:=Lib.hid (show ∀X,Calls Tryz.prog 52 #[.int .i64 (m:Int),.int .i64 4] X fun e w'=>e= .returned (.string (up.vC m 4))∧Below X.heap.size X w' from fun X=>rbytes_any 4 m X (by decide) hm2)
         have y0:w9.cell? ⟨by_,0,none⟩=some (.string y.owner):=by rw[qg V4.out];rfl
         have y1:w9.cell? ⟨by_,1,none⟩=some (.int .i64 y.typ):=by rw[qg V4.out];rfl
         have y2:w9.cell? ⟨by_,2,none⟩=some (.int .i64 y.cls):=by rw[qg V4.out];rfl
         have y3:w9.cell? ⟨by_,3,none⟩=some (.int .i64 y.ttl):=by rw[qg V4.out];rfl
         have y4:w9.cell? ⟨by_,4,none⟩=some (.string y.data):=by rw[qg V4.out];rfl
         have hm3:(m:Int)<4294967296:=by omega
         obtain⟨t,ht⟩:∃t:Bool,t=decide (4294967295<(n:Int)+1):=⟨_,rfl⟩
         have htt:decide (4294967295<(n:Int)+1)=t:=ht.symm
         have HM:=Lib.hid (show(if t=true then(1:Int) else(n:Int)+1)=(m:Int) by
          rw[ht,← hm]
          unfold up.XH
          by_cases g:(n:Int)+1 > 4294967295
          ·rw[if_pos g,if_pos (decide_eq_true g)]
          ·rw[if_neg g,if_neg (by rw[decide_eq_false g];simp)])
         clear hm hm2 ht
         go_upto_region 15 with fail
         go_wp2_with fail
         refine(CNY.out w9).mono ?_
         rintro e w10 ⟨rfl,jo⟩
         have zw:=Lib.hid (HB9.out.trans (jo.mono HB9.out.size))
         have HB1_10:=Lib.hid (HB1_9.out.trans (jo.mono HB1_9.out.size))
         have HROW10:=Lib.hid (ownsRow_below HROW9.out jo)
         have Us:=Lib.hid ((jo.block by_ (qw V4.out)).trans V4.out)
         clear jo
         clear y0 y1 y2 y3 y4
         have y0:w10.cell? ⟨by_,0,none⟩=some (.string y.owner):=by rw[qg Us.out];rfl
         have y1:w10.cell? ⟨by_,1,none⟩=some (.int .i64 y.typ):=by rw[qg Us.out];rfl
         have y2:w10.cell? ⟨by_,2,none⟩=some (.int .i64 y.cls):=by rw[qg Us.out];rfl
         have y3:w10.cell? ⟨by_,3,none⟩=some (.int .i64 y.ttl):=by rw[qg Us.out];rfl
         have y4:w10.cell? ⟨by_,4,none⟩=some (.string y.data):=by rw[qg Us.out];rfl
         have hdd1:=(HYI.out.2.2 HJ6.out).1;have hdd2:=(HYI.out.2.2 HJ6.out).2
         obtain⟨t4,ht4⟩:∃t4,t4=up.vC m 4:=⟨_,rfl⟩
         have hts:t4.size≤1000:=by rw[ht4,up.Jd];decide
         rw[← ht4]at CBY
         have HWS:=Lib.hid (show y.data.extract 0 (y.data.size-20) ++ t4 ++ y.data.extract (y.data.size-16) y.data.size=up.Q0 y.data m by
          rw[ht4,up.bytes4]
          unfold up.Q0
          rfl)
         clear ht4
         cases t
         ·have hmm:(n:Int)+1=(m:Int):=HM.out
          have CBV:Hid (∀p,Calls Tryz.prog 52 #[.int .i64 ((n:Int)+1),.int .i64 4] (gw w10 p) fun e w''=>e= .returned (.string t4)∧∃p',w''=gw w10 p'):=Lib.hid fun p=>by rw[hmm];exact qL (CBY.out _)
          clear hmm hm3
          have hI1:(20:Int)≤(y.data.size:Int):=by omega
          have hI2:(y.data.size:Int)≤65535:=by omega
          have hI3:(y.data.size:Int)-20≤(y.data.size:Int):=by omega
          have hI4:(0:Int)≤(y.data.size:Int)-20+4:=by omega
          have hI5:(y.data.size:Int)-20+4≤(y.data.size:Int):=by omega
          have hW1:IntKind.i64.wrap ((y.data.size:Int)-16)=(y.data.size:Int)-16:=by rw[IntKind.wrap_i64];omega
          have hI8:(0:Int)≤(y.data.size:Int)-16:=by omega
          have hW2:(y.data.size:Int)-20+4=(y.data.size:Int)-16:=by omega
          have hI6:(16:Int)≤(y.data.size:Int):=by omega
          have hI7:(y.data.size:Int)-16≤(y.data.size:Int):=by omega
          have hN3:((y.data.size:Int)-16).toNat=y.data.size-16:=by omega
          have hL3:¬(9223372036854775807<y.data.size-20+t4.size+(y.data.size-(y.data.size-16))):=by omega
          have hN1:((y.data.size:Int)-20).toNat=y.data.size-20:=by omega
          have hN2:((y.data.size:Int)-20+4).toNat=y.data.size-20+4:=by omega
          have hL1:¬(9223372036854775807<y.data.size-20+t4.size):=by omega
          have hL2:¬(9223372036854775807<y.data.size-20+t4.size+(y.data.size-(y.data.size-20+4))):=by omega
          go_upto_region 19 with fail
          have k4:=qh y4
          clear y0 y1 y2 y3 y4
          refine ze (C:=fun X=>∃p,X=gw w10 p) 14 (by kernel_rfl) (by kernel_rfl) (uL w10) ?_
          simp only[List.take_succ_cons,List.take_zero,List.drop_succ_cons,List.drop_zero]
          repeat (with_reducible refine wpQuiet_step (fun K hK=>?_);go_simp;first | (with_reducible refine hK _ ?_;clear hK K) | (apply Exists.intro;refine⟨fun _=>?_,hK _ ?_⟩;(go_at_call 52;with_reducible exact CBV.out _);clear hK K))
          with_reducible refine wpQuiet_nil ?_
          intro U hU
          have hBU:Below w10.heap.size w10 U:=by obtain⟨p,rfl⟩:=hU;exact qp _ _
          have HBU:=Lib.hid (zw.out.trans (hBU.mono zw.out.size));have HROWU:=Lib.hid (ownsRow_below HROW10.out hBU);have HHYU:=Lib.hid ((hBU.block by_ (qw Us.out)).trans Us.out)
          clear hU hBU k4
          obtain⟨y',hy'⟩:∃y':Rec,y'= { y with data:=up.Q0 y.data m}:=⟨_,rfl⟩
          obtain⟨w12,XZ⟩:∃X,X=U.setCell ⟨by_,4,none⟩ (.string (y.data.extract 0 (y.data.size-20) ++ t4 ++ y.data.extract (y.data.size-16) y.data.size)):=⟨_,rfl⟩
          have hh12:w12.heap[by_]? =some (.cells (recC y').toArray 51 (0,0)):=by rw[XZ,hy',HWS.out];exact(qB HHYU.out 4 (.string (up.Q0 y.data m))).trans rfl
          have hby3:w3.heap.size≤by_:=by rw[HBY.out];exact HBq.out.size
          have HB12b:=Lib.hid (show Below w3.heap.size w3 w12 by rw[XZ];exact HBU.out.setCell (p:=⟨by_,4,none⟩) hby3 _)
          have hnb:∀b,(Value.slice oa K.length oc).ownBlock=some b→b≠by_:=fun b hb e=>by
           have h1:=(Un.out.lt b hb).2
           rw[e,HBY.out]at h1
           omega
          have HROW12:=Lib.hid (show w12.ownsRow w3.heap.size 51 5 (.slice oa K.length oc) K.length (qG K) by
           rw[XZ]
           exact qi HROWU.out fun b hb=>Below.heap_setCell _ _ _ _ (by simp only;exact hnb b hb))
          have q4:U.cell? ⟨by_,4,none⟩=some (.string y.data):=by rw[qg HHYU.out];rfl
          have f4:U.frozen? ⟨by_,4,none⟩=false:=qE HHYU.out 4
          have HW12:=Lib.hid XZ;have HH12:=Lib.hid hh12
          have HR:=Lib.hid (show up.YI false ser y=y' by rw[hy'];exact HNX.out)
          clear XZ hh12 hy' hby3 hnb
          go_upto_region 20 with fail
          rw[← HW12.out]
          clear q4 f4
          have y0:w12.cell? ⟨by_,0,none⟩=some (.string y'.owner):=by rw[qg HH12.out];rfl
          have y1:w12.cell? ⟨by_,1,none⟩=some (.int .i64 y'.typ):=by rw[qg HH12.out];rfl
          have y2:w12.cell? ⟨by_,2,none⟩=some (.int .i64 y'.cls):=by rw[qg HH12.out];rfl
          have y3:w12.cell? ⟨by_,3,none⟩=some (.int .i64 y'.ttl):=by rw[qg HH12.out];rfl
          have y4:w12.cell? ⟨by_,4,none⟩=some (.string y'.data):=by rw[qg HH12.out];rfl
          have yw:=Lib.hid (HB12b.out.alloc HB12b.out.size (.cells (recC y').toArray 51))
          have zy:=Lib.hid (qi HROW12.out fun b hb=>Below.heap_alloc w12 (.cells (recC y').toArray 51) b (HROW12.out.lt b hb).2)
          have yu:=Lib.hid (show K.length+1≤maxLen from by unfold maxLen;omega)
          have yt:=Lib.hid (show(K.length+1)*56≤140737488355328 from by omega)
          have zx:=Lib.hid (show w3.heap.size≤(w12.alloc (.cells (recC y').toArray 51)).heap.size from by have:=HB12b.out.size;simp;omega)
          have qX:=Lib.hid (yA w12 (recC y') 51)
          go_wp2_with (at_builtin;refine qF _ rfl _ _ 22 rfl w3.heap.size 51 kX (.agg #[.string ⟨#[]⟩,.int .i64 0,.int .i64 0,.int .i64 0,.string ⟨#[]⟩]) 5 56 Tryz.underlying22 kZ.out kY.out yK.out yJ.out rfl (by decide) _ _ _ rfl zy.out ⟨w12.heap.size,0,none⟩ 1 1 (recC y') rfl rfl qX.out (by simp[Value.oneCell']) yu.out yt.out zx.out ?_)
          intro v' w10 qI q9 zi
          have zw:=Lib.hid (yw.out.grown q9 zx.out (fun j hj=>(zy.out.lt j hj).1))
          have qQ:=Lib.hid qI;have vg:=Lib.hid q9;have jE:=Lib.hid zi
          clear qI q9 zi yw zy yu yt zx qX
          clear y0 y1 y2 y3 y4
          go_wp2_with fail
          go_roundw
          case rel=>exact⟨kq+1,by omega,by go_num,by rw[HKN.out,HR.out,List.length_append,zq];simpa[qG] using qQ.out,zw.out⟩
          case measure=>simp[intOf];omega
         ·have hmm:(1:Int)=(m:Int):=HM.out
          have CBV:Hid (∀p,Calls Tryz.prog 52 #[.int .i64 1,.int .i64 4] (gw w10 p) fun e w''=>e= .returned (.string t4)∧∃p',w''=gw w10 p'):=Lib.hid fun p=>by rw[hmm];exact qL (CBY.out _)
          clear hmm hm3
          have hI1:(20:Int)≤(y.data.size:Int):=by omega
          have hI2:(y.data.size:Int)≤65535:=by omega
          have hI3:(y.data.size:Int)-20≤(y.data.size:Int):=by omega
          have hI4:(0:Int)≤(y.data.size:Int)-20+4:=by omega
          have hI5:(y.data.size:Int)-20+4≤(y.data.size:Int):=by omega
          have hW1:IntKind.i64.wrap ((y.data.size:Int)-16)=(y.data.size:Int)-16:=by rw[IntKind.wrap_i64];omega
          have hI8:(0:Int)≤(y.data.size:Int)-16:=by omega
          have hW2:(y.data.size:Int)-20+4=(y.data.size:Int)-16:=by omega
          have hI6:(16:Int)≤(y.data.size:Int):=by omega
          have hI7:(y.data.size:Int)-16≤(y.data.size:Int):=by omega
          have hN3:((y.data.size:Int)-16).toNat=y.data.size-16:=by omega
          have hL3:¬(9223372036854775807<y.data.size-20+t4.size+(y.data.size-(y.data.size-16))):=by omega
          have hN1:((y.data.size:Int)-20).toNat=y.data.size-20:=by omega
          have hN2:((y.data.size:Int)-20+4).toNat=y.data.size-20+4:=by omega
          have hL1:¬(9223372036854775807<y.data.size-20+t4.size):=by omega
          have hL2:¬(9223372036854775807<y.data.size-20+t4.size+(y.data.size-(y.data.size-20+4))):=by omega
          go_upto_region 19 with fail
          have k4:=qh y4
          clear y0 y1 y2 y3 y4
          refine ze (C:=fun X=>∃p,X=gw w10 p) 14 (by kernel_rfl) (by kernel_rfl) (uL w10) ?_
          simp only[List.take_succ_cons,List.take_zero,List.drop_succ_cons,List.drop_zero]
          repeat (with_reducible refine wpQuiet_step (fun K hK=>?_);go_simp;first | (with_reducible refine hK _ ?_;clear hK K) | (apply Exists.intro;refine⟨fun _=>?_,hK _ ?_⟩;(go_at_call 52;with_reducible exact CBV.out _);clear hK K))
          with_reducible refine wpQuiet_nil ?_
          intro U hU
          have hBU:Below w10.heap.size w10 U:=by obtain⟨p,rfl⟩:=hU;exact qp _ _
          have HBU:=Lib.hid (zw.out.trans (hBU.mono zw.out.size));have HROWU:=Lib.hid (ownsRow_below HROW10.out hBU);have HHYU:=Lib.hid ((hBU.block by_ (qw Us.out)).trans Us.out)
          clear hU hBU k4
          obtain⟨y',hy'⟩:∃y':Rec,y'= { y with data:=up.Q0 y.data m}:=⟨_,rfl⟩
          obtain⟨w12,XZ⟩:∃X,X=U.setCell ⟨by_,4,none⟩ (.string (y.data.extract 0 (y.data.size-20) ++ t4 ++ y.data.extract (y.data.size-16) y.data.size)):=⟨_,rfl⟩
          have hh12:w12.heap[by_]? =some (.cells (recC y').toArray 51 (0,0)):=by rw[XZ,hy',HWS.out];exact(qB HHYU.out 4 (.string (up.Q0 y.data m))).trans rfl
          have hby3:w3.heap.size≤by_:=by rw[HBY.out];exact HBq.out.size
          have HB12b:=Lib.hid (show Below w3.heap.size w3 w12 by rw[XZ];exact HBU.out.setCell (p:=⟨by_,4,none⟩) hby3 _)
          have hnb:∀b,(Value.slice oa K.length oc).ownBlock=some b→b≠by_:=fun b hb e=>by
           have h1:=(Un.out.lt b hb).2
           rw[e,HBY.out]at h1
           omega
          have HROW12:=Lib.hid (show w12.ownsRow w3.heap.size 51 5 (.slice oa K.length oc) K.length (qG K) by
           rw[XZ]
           exact qi HROWU.out fun b hb=>Below.heap_setCell _ _ _ _ (by simp only;exact hnb b hb))
          have q4:U.cell? ⟨by_,4,none⟩=some (.string y.data):=by rw[qg HHYU.out];rfl
          have f4:U.frozen? ⟨by_,4,none⟩=false:=qE HHYU.out 4
          have HW12:=Lib.hid XZ;have HH12:=Lib.hid hh12
          have HR:=Lib.hid (show up.YI false ser y=y' by rw[hy'];exact HNX.out)
          clear XZ hh12 hy' hby3 hnb
          go_upto_region 20 with fail
          rw[← HW12.out]
          clear q4 f4
          have y0:w12.cell? ⟨by_,0,none⟩=some (.string y'.owner):=by rw[qg HH12.out];rfl
          have y1:w12.cell? ⟨by_,1,none⟩=some (.int .i64 y'.typ):=by rw[qg HH12.out];rfl
          have y2:w12.cell? ⟨by_,2,none⟩=some (.int .i64 y'.cls):=by rw[qg HH12.out];rfl
          have y3:w12.cell? ⟨by_,3,none⟩=some (.int .i64 y'.ttl):=by rw[qg HH12.out];rfl
          have y4:w12.cell? ⟨by_,4,none⟩=some (.string y'.data):=by rw[qg HH12.out];rfl
          have yw:=Lib.hid (HB12b.out.alloc HB12b.out.size (.cells (recC y').toArray 51))
          have zy:=Lib.hid (qi HROW12.out fun b hb=>Below.heap_alloc w12 (.cells (recC y').toArray 51) b (HROW12.out.lt b hb).2)
          have yu:=Lib.hid (show K.length+1≤maxLen from by unfold maxLen;omega)
          have yt:=Lib.hid (show(K.length+1)*56≤140737488355328 from by omega)
          have zx:=Lib.hid (show w3.heap.size≤(w12.alloc (.cells (recC y').toArray 51)).heap.size from by have:=HB12b.out.size;simp;omega)
          have qX:=Lib.hid (yA w12 (recC y') 51)
          go_wp2_with (at_builtin;refine qF _ rfl _ _ 22 rfl w3.heap.size 51 kX (.agg #[.string ⟨#[]⟩,.int .i64 0,.int .i64 0,.int .i64 0,.string ⟨#[]⟩]) 5 56 Tryz.underlying22 kZ.out kY.out yK.out yJ.out rfl (by decide) _ _ _ rfl zy.out ⟨w12.heap.size,0,none⟩ 1 1 (recC y') rfl rfl qX.out (by simp[Value.oneCell']) yu.out yt.out zx.out ?_)
          intro v' w10 qI q9 zi
          have zw:=Lib.hid (yw.out.grown q9 zx.out (fun j hj=>(zy.out.lt j hj).1))
          have qQ:=Lib.hid qI;have vg:=Lib.hid q9;have jE:=Lib.hid zi
          clear qI q9 zi yw zy yu yt zx qX
          clear y0 y1 y2 y3 y4
          go_wp2_with fail
          go_roundw
          case rel=>exact⟨kq+1,by omega,by go_num,by rw[HKN.out,HR.out,List.length_append,zq];simpa[qG] using qQ.out,zw.out⟩
          case measure=>simp[intOf];omega
        ·have HR:=Lib.hid (show up.YI true ser y=y from rfl)
         go_upto_region 20 with fail
         skip
         have y0:w9.cell? ⟨by_,0,none⟩=some (.string y.owner):=by rw[qg V4.out];rfl
         have y1:w9.cell? ⟨by_,1,none⟩=some (.int .i64 y.typ):=by rw[qg V4.out];rfl
         have y2:w9.cell? ⟨by_,2,none⟩=some (.int .i64 y.cls):=by rw[qg V4.out];rfl
         have y3:w9.cell? ⟨by_,3,none⟩=some (.int .i64 y.ttl):=by rw[qg V4.out];rfl
         have y4:w9.cell? ⟨by_,4,none⟩=some (.string y.data):=by rw[qg V4.out];rfl
         have yw:=Lib.hid (HB9.out.alloc HB9.out.size (.cells (recC y).toArray 51))
         have zy:=Lib.hid (qi HROW9.out fun b hb=>Below.heap_alloc w9 (.cells (recC y).toArray 51) b (HROW9.out.lt b hb).2)
         have yu:=Lib.hid (show K.length+1≤maxLen from by unfold maxLen;omega)
         have yt:=Lib.hid (show(K.length+1)*56≤140737488355328 from by omega)
         have zx:=Lib.hid (show w3.heap.size≤(w9.alloc (.cells (recC y).toArray 51)).heap.size from by have:=HB9.out.size;simp;omega)
         have qX:=Lib.hid (yA w9 (recC y) 51)
         go_wp2_with (at_builtin;refine qF _ rfl _ _ 22 rfl w3.heap.size 51 kX (.agg #[.string ⟨#[]⟩,.int .i64 0,.int .i64 0,.int .i64 0,.string ⟨#[]⟩]) 5 56 Tryz.underlying22 kZ.out kY.out yK.out yJ.out rfl (by decide) _ _ _ rfl zy.out ⟨w9.heap.size,0,none⟩ 1 1 (recC y) rfl rfl qX.out (by simp[Value.oneCell']) yu.out yt.out zx.out ?_)
         intro v' w10 qI q9 zi
         have zw:=Lib.hid (yw.out.grown q9 zx.out (fun j hj=>(zy.out.lt j hj).1))
         have qQ:=Lib.hid qI;have vg:=Lib.hid q9;have jE:=Lib.hid zi
         clear qI q9 zi yw zy yu yt zx qX
         clear y0 y1 y2 y3 y4
         go_wp2_with fail
         go_roundw
         case rel=>exact⟨kq+1,by omega,by go_num,by rw[HKN.out,HR.out,List.length_append,zq];simpa[qG] using qQ.out,zw.out⟩
         case measure=>simp[intOf];omega
       ·have e7:((n:Int) == ser)=false:=by rw[beq_eq_false_iff_ne];exact hs
        have HR:=Lib.hid (show up.YI pb ser y=y by
         rw[HF.out]
         split
         ·rfl
         ·unfold up.jG;exact if_neg (fun hh=>hs (by rw[← HNB.out];exact hh.2)))
        clear hs
        go_upto_region 20 with fail
        skip
        have y0:w8.cell? ⟨by_,0,none⟩=some (.string y.owner):=by rw[qg HHY8.out];rfl
        have y1:w8.cell? ⟨by_,1,none⟩=some (.int .i64 y.typ):=by rw[qg HHY8.out];rfl
        have y2:w8.cell? ⟨by_,2,none⟩=some (.int .i64 y.cls):=by rw[qg HHY8.out];rfl
        have y3:w8.cell? ⟨by_,3,none⟩=some (.int .i64 y.ttl):=by rw[qg HHY8.out];rfl
        have y4:w8.cell? ⟨by_,4,none⟩=some (.string y.data):=by rw[qg HHY8.out];rfl
        have yw:=Lib.hid (HB8.out.alloc HB8.out.size (.cells (recC y).toArray 51))
        have zy:=Lib.hid (qi Uo.out fun b hb=>Below.heap_alloc w8 (.cells (recC y).toArray 51) b (Uo.out.lt b hb).2)
        have yu:=Lib.hid (show K.length+1≤maxLen from by unfold maxLen;omega)
        have yt:=Lib.hid (show(K.length+1)*56≤140737488355328 from by omega)
        have zx:=Lib.hid (show w3.heap.size≤(w8.alloc (.cells (recC y).toArray 51)).heap.size from by have:=HB8.out.size;simp;omega)
        have qX:=Lib.hid (yA w8 (recC y) 51)
        go_wp2_with (at_builtin;refine qF _ rfl _ _ 22 rfl w3.heap.size 51 kX (.agg #[.string ⟨#[]⟩,.int .i64 0,.int .i64 0,.int .i64 0,.string ⟨#[]⟩]) 5 56 Tryz.underlying22 kZ.out kY.out yK.out yJ.out rfl (by decide) _ _ _ rfl zy.out ⟨w8.heap.size,0,none⟩ 1 1 (recC y) rfl rfl qX.out (by simp[Value.oneCell']) yu.out yt.out zx.out ?_)
        intro v' w10 qI q9 zi
        have zw:=Lib.hid (yw.out.grown q9 zx.out (fun j hj=>(zy.out.lt j hj).1))
        have qQ:=Lib.hid qI;have vg:=Lib.hid q9;have jE:=Lib.hid zi
        clear qI q9 zi yw zy yu yt zx qX
        clear y0 y1 y2 y3 y4
        go_wp2_with fail
        go_roundw
        case rel=>exact⟨kq+1,by omega,by go_num,by rw[HKN.out,HR.out,List.length_append,zq];simpa[qG] using qQ.out,zw.out⟩
        case measure=>simp[intOf];omega
      ·have e6:(y.typ == 6)=false:=by rw[beq_eq_false_iff_ne];exact j6
       have HR:=Lib.hid (show up.YI pb ser y=y by
        rw[HF.out]
        split
        ·rfl
        ·unfold up.jG;exact if_neg (fun hh=>j6 hh.1))
       clear j6
       have HBa:=HBA;have HHYa:=HHY
       go_upto_region 20 with fail
       clear y0 y1 y2 y3 y4
       have y0:wa.cell? ⟨by_,0,none⟩=some (.string y.owner):=by rw[qg HHYa.out];rfl
       have y1:wa.cell? ⟨by_,1,none⟩=some (.int .i64 y.typ):=by rw[qg HHYa.out];rfl
       have y2:wa.cell? ⟨by_,2,none⟩=some (.int .i64 y.cls):=by rw[qg HHYa.out];rfl
       have y3:wa.cell? ⟨by_,3,none⟩=some (.int .i64 y.ttl):=by rw[qg HHYa.out];rfl
       have y4:wa.cell? ⟨by_,4,none⟩=some (.string y.data):=by rw[qg HHYa.out];rfl
       have yw:=Lib.hid (HBa.out.alloc HBa.out.size (.cells (recC y).toArray 51))
       have zy:=Lib.hid (qi YE.out fun b hb=>Below.heap_alloc wa (.cells (recC y).toArray 51) b (YE.out.lt b hb).2)
       have yu:=Lib.hid (show K.length+1≤maxLen from by unfold maxLen;omega)
       have yt:=Lib.hid (show(K.length+1)*56≤140737488355328 from by omega)
       have zx:=Lib.hid (show w3.heap.size≤(wa.alloc (.cells (recC y).toArray 51)).heap.size from by have:=HBa.out.size;simp;omega)
       have qX:=Lib.hid (yA wa (recC y) 51)
       go_wp2_with (at_builtin;refine qF _ rfl _ _ 22 rfl w3.heap.size 51 kX (.agg #[.string ⟨#[]⟩,.int .i64 0,.int .i64 0,.int .i64 0,.string ⟨#[]⟩]) 5 56 Tryz.underlying22 kZ.out kY.out yK.out yJ.out rfl (by decide) _ _ _ rfl zy.out ⟨wa.heap.size,0,none⟩ 1 1 (recC y) rfl rfl qX.out (by simp[Value.oneCell']) yu.out yt.out zx.out ?_)
       intro v' w10 qI q9 zi
       have zw:=Lib.hid (yw.out.grown q9 zx.out (fun j hj=>(zy.out.lt j hj).1))
       have qQ:=Lib.hid qI;have vg:=Lib.hid q9;have jE:=Lib.hid zi
       clear qI q9 zi yw zy yu yt zx qX
       clear y0 y1 y2 y3 y4
       go_wp2_with fail
       go_roundw
       case rel=>exact⟨kq+1,by omega,by go_num,by rw[HKN.out,HR.out,List.length_append,zq];simpa[qG] using qQ.out,zw.out⟩
       case measure=>simp[intOf];omega
     ·obtain rfl:kq=N.length:=by omega
      obtain⟨Z,hZ⟩:∃Z,Z=N.map (up.YI pb ser):=⟨_,rfl⟩
      have hNe:(N.take N.length).map (up.YI pb ser)=Z:=by rw[List.take_length,hZ]
      have hle:((N.take N.length).map (up.YI pb ser)).length=Z.length:=by rw[hNe]
      rw[hle]
      rw[hNe]at hown
      have HZZ:=Lib.hid (show up.Yf qf L au=Z by rw[hZ];exact HOUT.out)
      have HOWN:=Lib.hid hown
      have HB16:=Lib.hid (Z7.out.trans (hB.mono Z7.out.size))
      have HZS:=Lib.hid (show ∀r∈Z,r.owner.size≤1099511627776 from fun r hr=>by
       rw[hZ]at hr
       obtain⟨r0,hr0,rfl⟩:=List.mem_map.1 hr
       have h1:=up.uH (HNIN.out r0 hr0)
       rw[HF.out]
       split
       ·exact h1
       ·unfold up.jG;split <;> exact h1)
      obtain⟨zg,zcap,hzc,-⟩:=HZ.out.below HB16.out
      have z0:w6.cell? ⟨z,0,none⟩=some (.string qf):=by rw[qg hzc];rfl
      have z1:w6.cell? ⟨z,1,none⟩=some (.slice (some ⟨zg,0,none⟩) L.length zcap):=by rw[qg hzc];rfl
      clear hzc
      have HMK:=Lib.hid (rmake_any qf hap Z HZS.out _ (ZH HOWN.out) w6 (qO HOWN.out))
      clear ui hown hB hZ hNe hle
      go_wp2_with fail
      refine HMK.out.mono ?_
      rintro e w7 ⟨hB7,hm⟩
      have HB7:=Lib.hid (HB1.out.trans ((HB16.out.trans (hB7.mono HB16.out.size)).mono HB1.out.size))
      rcases hne:zn.yY qf Z with _ | ⟨k0,c0⟩
      ·rw[hne]at hm
       obtain⟨y,L',hs',rfl,hy⟩:=hm
       have HS:=Lib.hid hs';have HYY:=Lib.hid hy;have HNE:=Lib.hid hne
       clear hB7 hs' hy hne z0 z1
       go_wp2_with fail
       go_ret2
       exact⟨HB7.out,.inr (.inr ⟨HC0.out,by rw[HZZ.out];exact HNE.out,y,L',by rw[HZZ.out];exact HS.out,rfl,HYY.out⟩)⟩
      ·have hcc:(c0 != 0)=true:=by rw[bne_iff_ne];exact zn.newE_code hne
       rw[hne]at hm
       simp only at hm
       subst hm
       have HNE:=Lib.hid hne
       clear hB7 hne z0 z1
       go_wp2_with fail
       go_ret2
       exact⟨HB7.out,.inr (.inl ⟨HC0.out,by rw[HZZ.out,HNE.out];simp,rfl⟩)⟩
 ·have d0:(cs != 0)=true:=by rw[bne_iff_ne];exact hc0
  have HNC:=Lib.hid hc0
  clear hc0
  go_wp2_with fail
  go_ret2
  exact⟨HB2.out,.inl ⟨by rw[← HCS.out];exact HNC.out,by rw[← HCS.out];rfl⟩⟩
end Go.Proofs.YtdjjemajfphjaaaGreat
