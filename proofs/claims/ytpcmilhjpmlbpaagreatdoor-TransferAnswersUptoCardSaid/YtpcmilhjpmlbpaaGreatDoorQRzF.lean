import Derived.Test.YtpcmilhjpmlbpaaGreatDoorQRefY
set_option maxRecDepth 100000
set_option maxHeartbeats 4000000
namespace Go.Proofs.YtpcmilhjpmlbpaaGreatDoor
open Go.RowKit Go.Shelf Go.WideMaps nm od
namespace zn
end zn
theorem KE (a b:List Rec):qp (a ++ b)=qp a ++ qp b:=by unfold qp;rw[List.flatMap_append]
namespace dt
theorem num_four (d:ByteArray):jW (.num 4) d=if d.size<4 then -1 else 4:=by
 show xR 4 d=_;unfold xR;by_cases h:d.size<4
 ·rw[if_pos h,if_pos (by omega)]
 ·rw[if_neg h,if_neg (by omega)]
theorem VO {f:Fld}{fs:List Fld}{d:ByteArray}{acc ps:List ByteArray}{r:ByteArray}(h:zq (f :: fs) d acc=some (ps,r)):
 0≤jW f d∧∃acc',zq fs (d.extract (jW f d).toNat d.size) acc'=some (ps,r):=by
 rw[zq]at h
 split at h
 ·cases h
 ·exact⟨by omega,_,h⟩
theorem splitF_le {f:Fld}{fs:List Fld}{d:ByteArray}{acc ps:List ByteArray}{r:ByteArray}(h:zq (f :: fs) d acc=some (ps,r)):
 ∃d' acc',d'.size≤d.size∧zq fs d' acc'=some (ps,r):=by
 obtain⟨h0,acc',h1⟩:=VO h;exact⟨_,acc',by rw[ByteArray.size_extract];omega,h1⟩
theorem jJ {fs:List Fld}{d:ByteArray}{acc ps:List ByteArray}{r:ByteArray}(h:zq (.num 4 :: fs) d acc=some (ps,r)):
 ∃d' acc',d'.size+4=d.size∧zq fs d' acc'=some (ps,r):=by
 obtain⟨h0,acc',h1⟩:=VO h;rw[num_four]at h0 h1
 split at h0
 ·omega
 ·rename_i hs
  rw[if_neg hs]at h1;exact⟨_,acc',by rw[ByteArray.size_extract];omega,h1⟩
theorem QX {d:ByteArray}(h:jd 6 d=0):20≤d.size∧d.size≤65535:=by
 unfold jd at h
 split at h
 ·split at h
  ·cases h
  ·rename_i hs
   split at h
   ·rename_i hf
    refine⟨?_,by omega⟩;unfold fits at hf;have e:ui 6=some [.host,.host,.num 4,.num 4,.num 4,.num 4,.num 4]:=rfl;rw[e]at hf;simp only at hf
    split at hf
    ·rename_i ps r hsp
     obtain⟨d1,a1,s1,h1⟩:=splitF_le hsp;obtain⟨d2,a2,s2,h2⟩:=splitF_le h1;obtain⟨d3,a3,s3,h3⟩:=jJ h2;obtain⟨d4,a4,s4,h4⟩:=jJ h3;obtain⟨d5,a5,s5,h5⟩:=jJ h4;obtain⟨d6,a6,s6,h6⟩:=jJ h5;obtain⟨d7,a7,s7,h7⟩:=jJ h6;omega
    ·cases hf
   ·cases h
 ·cases h
end dt
namespace zn
def Zw (d:ByteArray):Int:=(dt.jP (d.extract (d.size-20) (d.size-16)) 4:Nat)
end zn
theorem serial_any (top z:Nat)(qg:ByteArray)(L:List Rec)(r0:Rec)(rest:List Rec)(hrow:zn.qI L (qx qg,6)=r0 :: rest)(hd:20≤r0.data.size∧r0.data.size≤65535)(w:World)(hz:QD w top z qg L):
 Calls Tryz.prog 61 #[.pointer (some ⟨z,0,none⟩)] w fun e w'=>e= .returned (.int .i64 (zn.Zw r0.data))∧Below w.heap.size w w':=by
 obtain⟨base,rg,cap0,sb,tb,l0,h1,h2,h3,h4,h5⟩:=hz.parts;have z0:w.cell? ⟨z,0,none⟩=some (.string qg):=by rw[qh h2];rfl
 have z2:w.cell? ⟨z,2,none⟩=some (.map (some sb)):=by rw[qh h2];rfl
 obtain⟨v,hv,hown⟩:=Z7 h4 (fun κ hκ=>X5 h1 hκ) (κ:=(qx qg,6)) ⟨YG _,rfl⟩;rw[hrow]at hown;obtain⟨g,cap,rfl,hbg,hgl⟩:=hown.form (by simp);have hcell:w.cell? ⟨g,4,none⟩=some (.string r0.data):=by
  have:=hown.cells (g:=g) rfl 4 (.string r0.data) (by simp[qp])
  simpa[Addr.add] using this
 have hlen:(zn.qI L (qx qg,6)).length=(r0 :: rest).length:=by rw[hrow]
 obtain⟨n,hn⟩:∃n,n=(r0 :: rest).length:=⟨_,rfl⟩;rw[← hn]at hv;have hn1:0<n:=by rw[hn];simp
 have e0:=qf z0;have e2:=qf z2;have e4:=qf hcell;have el:∀p,(Instr.lookup 114 (.map (some sb)) (Xl (qx qg,6)) false).run Tryz.prog (gw w p)= .ok (.slice (some ⟨g,0,none⟩) n cap) (gw w p):=fun p=>hv _ (qB w p);obtain⟨d,hdd⟩:∃d,d=r0.data:=⟨_,rfl⟩;rw[← hdd]at hd e4 ⊢;obtain⟨hd1,hd2⟩:=hd;clear h1 h2 h3 h4 h5 hz hv hown hcell z0 z2 hrow hlen hn hbg hdd
 go_enter Tryz.func61,Tryz.ntmps61
 go_wp2_with fail;refine ql (by kernel_rfl) (by kernel_rfl) ?_
 repeat (with_reducible refine wpQuiet_step (fun K hK=>?_);go_simp;first | (with_reducible refine hK _ ?_;clear hK K) | (apply Exists.intro;refine⟨fun _=>?_,hK _ ?_⟩;(first | (go_at_call 101;exact qV (kM _ _)));clear hK K))
 with_reducible refine wpQuiet_nil ?_
 intro W hW;have hBW:Below w.heap.size w W:=by obtain⟨p,rfl⟩:=hW;exact qB _ p
 clear hW e0 e2 e4 el;have hsw:=hBW.size;obtain⟨x,hx⟩:∃x:ByteArray,x=d.extract (d.size-20) (d.size-16):=⟨_,rfl⟩;have hxs:x.size=4:=by rw[hx,ByteArray.size_extract];omega
 obtain⟨w1,cap2,hcv,hsz,hB,hc⟩:=JZ (P:=Tryz.prog) W 9 122 5 x Tryz.underlying9 Tryz.underlying122 Tryz.underlying5;rw[hx]at hcv;have hr:zn.Zw d=(dt.jP x 4:Nat):=by unfold zn.Zw;rw[← hx]
 rw[hxs]at hc;have hxe:(d.extract (d.size-20) (d.size-16)).size=4:=by rw[← hx];exact hxs
 rw[hxe]at hcv;have HR:=qe hr;have HB:=qe (hBW.trans (hB.mono hsw));have HC:=qe hc;have HXS:=qe hxs;clear hr hB hc hBW hx hxs hxe;go_wp2_with fail;clear hcv hsz hsw hgl hn1
 go_loopw [31,4,6] (fun kv vv _ wr=>∃k:Nat,k≤4∧kv= .int .i64 (k:Int)∧vv= .int .i64 (dt.jP x k:Nat)∧wr=w1) (fun kv _ _ _=>4-(intOf kv).toNat)
 case atStart=>exact⟨0,by omega,rfl,rfl,rfl⟩
 case round=>
  obtain⟨k,hk,rfl,rfl,rfl⟩:=hrel;by_cases hlt:k<4
  ·have c0:=(HC.out k hlt).1;obtain⟨b,hb⟩:∃b,b=uQ x k:=⟨_,rfl⟩;have hv:dt.jP x k<256 ^ 4:=Nat.lt_of_lt_of_le (dt.KX x k) (Nat.pow_le_pow_right (by omega) (by omega));have hv2:dt.jP x k<1099511627776:=Nat.lt_of_lt_of_le hv (by decide);have hv3:(dt.jP x k:Int)<1099511627776:=by omega
   rw[← hb]at c0;have Xn:(b.toNat:Int)<256:=by have:=UInt8.toNat_lt b;omega
   have hor:=or_byte (dt.jP x k) b.toNat hv2 (UInt8.toNat_lt _);have hnx:(((dt.jP x k*256+b.toNat:Nat)):Int)=(dt.jP x (k+1):Nat):=by rw[hb];rfl
   rw[hnx]at hor;have HOR:=qe hor;have HV2:=qe hv2;have hlt':(k:Int)<4:=by omega
   have HLT:=qe hlt;clear hor hnx hv hb hv2 hk hlt;go_wp2_with fail
   go_roundw
   case rel=>exact⟨k+1,by omega,by go_num,by rw[HOR.out],trivial⟩
   case measure=>simp[intOf];omega
  ·obtain rfl:k=4:=by omega
   go_wp2_with fail;go_ret;exact⟨by rw[HR.out];rfl,HB.out⟩
theorem rec_if {α:Type}(r s:Rec)(A B:α):(if r.owner.toList=s.owner.toList then(if r.typ=s.typ then(if r.cls=s.cls then(if r.ttl=s.ttl then(if r.data.toList=s.data.toList then A else B) else B) else B) else B) else B)=if r=s then A else B:=by
 obtain⟨a1,a2,a3,a4,a5⟩:=r;obtain⟨b1,b2,b3,b4,b5⟩:=s;have e:∀a b:ByteArray,a.toList=b.toList↔a=b:=fun a b=>by rw[← str_eq,beq_iff_eq]
 simp only[e,Rec.mk.injEq];by_cases h1:a1=b1 <;> by_cases h2:a2=b2 <;> by_cases h3:a3=b3 <;> by_cases h4:a4=b4 <;> by_cases h5:a5=b5 <;> simp[h1,h2,h3,h4,h5]
theorem K8 {x y:List Rec}{k:Nat}(hx:k<x.length)(hy:k<y.length)(h:x.take k=y.take k)(e:x[k]=y[k]):x.take (k+1)=y.take (k+1):=by
 rw[List.take_succ_eq_append_getElem hx,List.take_succ_eq_append_getElem hy,h,e]
theorem Z8 (x y:List Rec)(hx:x.length≤1000000000000)(v u:Value)(w:World)(hv:qm w v x)(hu:qm w u y):
 Calls Tryz.prog 22 #[v,u] w fun e w'=>e= .returned (.bool (decide (x=y)))∧Below w.heap.size w w':=by
 obtain⟨a,cap,rfl,-⟩:=id hv;obtain⟨a2,cap2,rfl,-⟩:=id hu;have HV:=qe hv;have HU:=qe hu;clear hv hu;by_cases hl:x.length=y.length
 ·obtain⟨m,hm⟩:∃m,m=y.length:=⟨_,rfl⟩;have HM:=qe hm;rw[hl,← hm]at hx ⊢;have HL:=qe (hl.trans hm.symm);clear hl hm
  go_enter Tryz.func22,Tryz.ntmps22
  go_wp2_with fail
  go_loopw [13,5] (fun kv _ wr=>∃k:Nat,k≤m∧kv= .int .i64 (k:Int)∧x.take k=y.take k∧Below w.heap.size w wr) (fun kv _ _=>m-(intOf kv).toNat)
  case atStart=>exact⟨0,Nat.zero_le _,rfl,rfl,Below.refl _ _⟩
  case round=>
   obtain⟨k,hk,rfl,hxy,hB⟩:=hrel;have HB:=qe hB;have HXY:=qe hxy;clear hxy;by_cases hkm:k<m
   ·obtain⟨a',cap',hv,_,hr⟩:=qm.below HV.out hB;simp only[Value.slice.injEq]at hv;obtain⟨rfl,_,rfl⟩:=hv;obtain⟨b,off,rfl,hbl,c0,c1,c2,c3,c4⟩:=hr k (by rw[HL.out];exact hkm);obtain⟨a',cap',hv,_,hr2⟩:=qm.below HU.out hB;simp only[Value.slice.injEq]at hv;obtain⟨rfl,_,rfl⟩:=hv;obtain⟨b2,off2,rfl,hbl2,d0,d1,d2,d3,d4⟩:=hr2 k (by rw[← HM.out];exact hkm);clear hr hr2 hB;go_upto_region 6 with fail;refine ql (by kernel_rfl) (by kernel_rfl) ?_;have e0:=qf c0;have e1:=qf c1;have e2:=qf c2;have e3:=qf c3;have e4:=qf c4;have f0:=qf d0;have f1:=qf d1;have f2:=qf d2;have f3:=qf d3;have f4:=qf d4
    repeat (with_reducible refine wpQuiet_step (fun K hK=>?_);go_simp;first | (with_reducible refine hK _ ?_;clear hK K))
    have hx2:k<x.length:=by rw[HL.out];exact hkm
    have hy2:k<y.length:=by rw[← HM.out];exact hkm
    with_reducible refine wpQuiet_step (fun K hK=>?_)
    go_simp
    refine⟨.bool (!decide (x[k]=y[k])),fun _=>?_,hK _ ?_⟩
    ·rw[rec_if];by_cases h:x[k]=y[k]
     ·rw[if_pos h,decide_eq_true h];exact⟨rfl,rfl⟩
     ·rw[if_neg h,decide_eq_false h];exact⟨rfl,rfl⟩
    clear hK K
    with_reducible refine wpQuiet_nil ?_
    intro W hW;have hBW:Below wr.heap.size wr W:=by obtain⟨p,rfl⟩:=hW;exact qB _ p
    have HBW:=qe (HB.out.trans (hBW.mono HB.out.size));clear hW hBW e0 e1 e2 e3 e4 f0 f1 f2 f3 f4 c0 c1 c2 c3 c4 d0 d1 d2 d3 d4;by_cases he:x[k]=y[k]
    ·rw[decide_eq_true he];have hnx:=K8 hx2 hy2 HXY.out he;have HNX:=qe hnx;clear hnx he;go_wp2_with fail
     go_roundw
     case rel=>exact⟨k+1,by omega,by go_num,HNX.out,HBW.out⟩
     case measure=>simp[intOf];omega
    ·rw[decide_eq_false he];have hno:decide (x=y)=false:=decide_eq_false fun h=>he (by subst h;rfl);have HNO:=qe hno;clear hno he;go_wp2_with fail;go_ret;exact⟨qH HNO.out.symm,HBW.out⟩
   ·obtain rfl:k=m:=by omega
    have hyes:decide (x=y)=true:=decide_eq_true (by
     have h:=HXY.out;rw[List.take_of_length_le (by rw[HL.out];exact Nat.le_refl _),List.take_of_length_le (by rw[← HM.out];exact Nat.le_refl _)]at h;exact h)
    have HY:=qe hyes;clear hyes hkm hB;go_wp2_with fail;go_ret;exact⟨qH HY.out.symm,HB.out⟩
 ·have hno:decide (x=y)=false:=decide_eq_false fun h=>hl (by rw[h]);have hl':((x.length:Int) != (y.length:Int))=true:=by rw[bne_iff_ne];omega
  have HNO:=qe hno;clear hno hl
  go_enter Tryz.func22,Tryz.ntmps22
  go_wp2_with fail;go_ret;exact⟨qH HNO.out.symm,Below.refl _ _⟩
namespace zn
end zn
theorem Us {qg:ByteArray}{l:List Rec}{w w':World}{e:Ending}(h:ZF qg l w e w')(hn:zn.yO qg l=none):
 Below w.heap.size w w'∧∃z L,w.heap.size≤z∧zS l L∧e= .returned (.tuple #[.pointer (some ⟨z,0,none⟩),.int .i64 0,.int .i64 0])∧jA w' w'.heap.size z qg L:=by
 unfold ZF at h;rw[hn]at h;obtain⟨hB,z,L,hz,hs,he,hv⟩:=h;have hva:=zn.Y3 hn;exact⟨hB,z,L,hz,hs,he,hv,by rw[hs.1.length_eq];exact hva.small,fun r hr=>(hva.each r (hs.1.mem_iff.1 hr)).1,hs.2⟩
theorem newPost_bad {qg:ByteArray}{l:List Rec}{w w':World}{e:Ending}{k c:Int}(h:ZF qg l w e w')(hn:zn.yO qg l=some (k,c)):
 Below w.heap.size w w'∧e= .returned (.tuple #[.pointer none,.int .i64 k,.int .i64 c]):=by
 unfold ZF at h;rw[hn]at h;exact h
theorem jA.z {w:World}{top z:Nat}{qg:ByteArray}{L:List Rec}(h:jA w top z qg L):QD w top z qg L:=h.v
end Go.Proofs.YtpcmilhjpmlbpaaGreatDoor
namespace Go.Proofs.YtpcmilhjpmlbpaaGreatDoor
open Go.RowKit Go.Shelf nm od
namespace zn
theorem rows_filter {L:List Rec}(hn:jN L)(n:ByteArray)(t:Int):L.filter (fun r=>decide (r.typ=t) && qF r.owner n)=qI L (qx n,t):=by
 unfold qI;apply List.filter_congr;intro r hr
 cases hc:qo n
 ·have h1:qF r.owner n=false:=by unfold qF;rw[hc];simp
  have h2:qx n=ByteArray.empty:=fold_none hc;rw[h1,Bool.and_false]
  symm
  rw[decide_eq_false_iff_not];unfold yg;simp only[Prod.mk.injEq];rintro⟨e,_⟩;obtain⟨x,hx⟩:=yN (hn r hr);have h3:=vH hx;rw[e,h2]at h3;have:=Qq h3;rw[empty_check]at this
  cases this
 ·unfold yg;rw[Bool.eq_iff_iff];simp only[Bool.and_eq_true,decide_eq_true_eq,Prod.mk.injEq];rw[zM (hn r hr) hc];exact And.comm
theorem ZB {α:Type}{L:List α}{k:Nat}(h:k<L.length)(p:α→Bool):(L.take (k+1)).filter p=if p L[k]=true then(L.take k).filter p ++ [L[k]] else(L.take k).filter p:=by
 rw[List.take_succ_eq_append_getElem h,List.filter_append];by_cases hp:p L[k]=true
 ·rw[if_pos hp,List.filter_cons,if_pos hp];rfl
 ·rw[if_neg hp,List.filter_cons,if_neg hp];simp
theorem filter_take_le {α:Type}(L:List α)(k:Nat)(p:α→Bool):((L.take k).filter p).length≤L.length:=Nat.le_trans (List.length_filter_le _ _) (by rw[List.length_take];omega)
end zn
theorem uS {w w':World}{z:Nat}{qg:ByteArray}{L:List Rec}{g cap:Nat}(hz:w.heap[z]? =some (.cells #[.string qg,.slice (some ⟨g,0,none⟩) L.length cap] 58 (0,0)))(hr:qm w (.slice (some ⟨g,0,none⟩) L.length cap) L)(hB:Below w.heap.size w w'):
 w'.cell? ⟨z,0,none⟩=some (.string qg)∧w'.cell? ⟨z,1,none⟩=some (.slice (some ⟨g,0,none⟩) L.length cap)∧(∀k (hk:k<L.length),Qs w' g (k*5) L[k])∧L.length≤cap:=by
 have h1:=(hB.block z (qA hz)).trans hz;refine⟨by rw[qh h1];rfl,by rw[qh h1];rfl,fun k hk=>?_,?_⟩
 ·have:=(qL (hr.below hB) hk).2;rw[Nat.zero_add]at this;exact this
 ·obtain⟨a,c,hv,hc,_⟩:=hr;simp only[Value.slice.injEq]at hv;omega
theorem rset_any (z:Nat)(qg:ByteArray)(L:List Rec)(hL:L.length≤2000)(hnm:zn.jN L)(n:ByteArray)(hn:n.size≤1099511627776)(t:Int)(w:World)(hz:xA w z qg L):
 Calls Tryz.prog 87 #[.pointer (some ⟨z,0,none⟩),.string n,.int .i64 t] w fun e w'=>yn (zn.qI L (qx n,t)) w e w':=by
 obtain⟨g,cap,hzc,hrec⟩:=hz;have hall:=zn.rows_filter hnm n t;obtain⟨p,hp⟩:∃p:Rec→Bool,p=fun r=>decide (r.typ=t) && qF r.owner n:=⟨_,rfl⟩;rw[← hp]at hall;have hsz:∀k (hk:k<L.length),L[k].owner.size≤1099511627776:=fun k hk=>by have:=qU (hnm _ (List.getElem_mem hk));omega
 have HC:=qe (fun W (hB:Below w.heap.size w W)=>uS hzc hrec hB);obtain⟨q0,q1,_,hcap⟩:=uS hzc hrec (Below.refl _ _);obtain⟨ZN,Za,Zh,uC,uO⟩:=info_parts jM;have Ka:=qe Za;have J9:=qe Zh;have QF:=qe uC;have QE:=qe uO;clear Za Zh uC uO;have HZC:=qe hzc;have HREC:=qe hrec;have zD:=qe hall;have HP:=qe hp;have HSZ:=qe hsz;have HNM:=qe hnm;clear hzc hrec hall hp hsz hnm
 go_enter Tryz.func87,Tryz.ntmps87
 go_wp2_with fail;clear q0 q1
 go_loopw [15,7,9] (fun kv v _ wr=>∃k:Nat,k≤L.length∧kv= .int .i64 (k:Int)∧wr.ownsRow w.heap.size 80 5 v ((L.take k).filter p).length (qp ((L.take k).filter p))∧Below w.heap.size w wr) (fun kv _ _ _=>L.length-(intOf kv).toNat)
 case atStart=>exact⟨0,Nat.zero_le _,rfl,World.ownsRow_nil _ _ _ _,Below.refl _ _⟩
 case round=>
  obtain⟨k,hk,rfl,hown,hB⟩:=hrel;obtain⟨a,c,rfl,_⟩:=qi hown;have hsr:=hB.size;have hln:=zn.filter_take_le L k p;have HOWN:=qe hown;have HB:=qe hB;clear hown hB;by_cases hlt:k<L.length
  ·obtain⟨c0,c1,c2,c3,c4⟩:=(HC.out wr HB.out).2.2.1 k hlt;have hki:(k:Int)<(L.length:Int):=by omega
   obtain⟨hBA0,_,hx⟩:=qY wr _ L[k] rfl;have HBA:=qe (HB.out.trans (hBA0.mono hsr));have HROWA:=qe (ownsRow_below HOWN.out hBA0);have hso:=HSZ.out k hlt;have hnx:=zn.ZB hlt p;obtain⟨wa,hwa⟩:∃W,W=wr.alloc (.cells (recC L[k]).toArray 80):=⟨_,rfl⟩;rw[← hwa]at HBA HROWA hx;have hsa:=HBA.out.size;have ltb:wr.heap.size<wa.heap.size:=by rw[hwa];simp
   clear hBA0;obtain⟨x0,x1,x2,x3,x4⟩:=id hx;by_cases ht:L[k].typ=t
   ·have bt:(L[k].typ == t)=true:=by rw[beq_iff_eq];exact ht
    cases he:qF L[k].owner n
    ·have hpk:p L[k]=false:=by rw[HP.out];simp[he]
     rw[hpk,if_neg (by simp)]at hnx;have HT:=qe ht;have HE:=qe he;have HPK:=qe hpk;have HNX:=qe hnx;have HX:=qe hx;have HWA:=qe hwa;clear ht he hpk hnx hx hwa;go_wp2_with fail;rw[← HWA.out];refine(zV _ _ hso hn _).mono ?_;rintro e w2 ⟨rfl,hB2⟩;rw[HE.out];have HB2:=qe (HBA.out.trans (hB2.mono HBA.out.size));have YT:=qe (ownsRow_below HROWA.out hB2);clear hB2;go_wp2_with fail
     go_roundw
     case rel=>exact⟨k+1,by omega,by go_num,by rw[HNX.out];exact YT.out,HB2.out⟩
     case measure=>simp[intOf];omega
    ·have hpk:p L[k]=true:=by rw[HP.out];simp[he,ht]
     rw[hpk,if_pos rfl]at hnx;have HT:=qe ht;have HE:=qe he;have HPK:=qe hpk;have HNX:=qe hnx;have HX:=qe hx;have HWA:=qe hwa;clear ht he hpk hnx hx hwa;clear c0 c1 c2 c3 c4;obtain⟨c0,c1,c2,c3,c4⟩:=(HC.out wr HB.out).2.2.1 k hlt;go_wp2_with fail;rw[← HWA.out];refine(zV _ _ hso hn _).mono ?_;rintro e w2 ⟨rfl,hB2⟩;rw[HE.out];obtain⟨y0,y1,y2,y3,y4⟩:=HX.out.keep (hB2.block _ ltb);have HB2:=qe (HBA.out.trans (hB2.mono HBA.out.size));have YT:=qe (ownsRow_below HROWA.out hB2);clear hB2 x0 x1 x2 x3 x4 c0 c1 c2 c3 c4;obtain⟨F,hF⟩:∃F,F=(L.take k).filter p:=⟨_,rfl⟩;rw[← hF]at YT HNX hln ⊢;have HF:=qe hF;clear hF;have Qt:=qe (HB2.out.alloc HB2.out.size (.cells (recC L[k]).toArray 80));have kK:=qe (qj YT.out fun b hb=>Below.heap_alloc w2 (.cells (recC L[k]).toArray 80) b (YT.out.lt b hb).2);have xC:=qe (show F.length+1≤maxLen from by unfold maxLen;omega);have xB:=qe (show(F.length+1)*56≤140737488355328 from by omega);have kJ:=qe (show w.heap.size≤(w2.alloc (.cells (recC L[k]).toArray 80)).heap.size from by have:=HB2.out.size;simp;omega);have jD:=qe (j3 w2 (recC L[k]) 80);go_wp2_with (at_builtin;refine qJ _ rfl _ _ 31 rfl w.heap.size 80 ZN (.agg #[.string ⟨#[]⟩,.int .i64 0,.int .i64 0,.int .i64 0,.string ⟨#[]⟩]) 5 56 Tryz.underlying31 Ka.out J9.out QF.out QE.out rfl (by decide) _ _ _ rfl kK.out ⟨w2.heap.size,0,none⟩ 1 1 (recC L[k]) rfl rfl jD.out (by simp[Value.oneCell']) xC.out xB.out kJ.out ?_);intro v' w10 zi yI yX;have yV:=qe (Qt.out.grown yI kJ.out (fun j hj=>(kK.out.lt j hj).1));have zJ:=qe zi;have YK:=qe yI;have xN:=qe yX;clear zi yI yX Qt kK xC xB kJ jD;go_wp2_with fail
     go_roundw
     case rel=>
      refine⟨k+1,by omega,by go_num,?_,yV.out⟩;have h:=zJ.out;rw[HNX.out,List.length_append,jH];exact h
     case measure=>simp[intOf];omega
   ·have bt:(L[k].typ == t)=false:=by rw[beq_eq_false_iff_ne];exact ht
    have hpk:p L[k]=false:=by rw[HP.out];simp[ht]
    rw[hpk,if_neg (by simp)]at hnx;have HT:=qe ht;have HPK:=qe hpk;have HNX:=qe hnx;have HX:=qe hx;have HWA:=qe hwa;clear ht hpk hnx hx hwa;go_wp2_with fail
    go_roundw
    case rel=>exact⟨k+1,by omega,by go_num,by rw[HNX.out,← HWA.out];exact HROWA.out,by rw[← HWA.out];exact HBA.out⟩
    case measure=>simp[intOf];omega
  ·obtain rfl:k=L.length:=by omega
   have hfin:(L.take L.length).filter p=zn.qI L (qx n,t):=by rw[List.take_length];exact zD.out
   have Kb:=qe hfin;clear hfin;go_wp2_with fail;go_ret;exact⟨_,rfl,HB.out,by rw[← Kb.out];exact HOWN.out⟩
namespace zn
end zn
namespace zn
theorem soa_rec {qg:ByteArray}{L:List Rec}(hv:Valid qg L):∃r∈L,r.typ=6∧Qx r=false∧qx r.owner=qx qg:=by
 obtain⟨_,h2,h3,_⟩:=vG hv.rules;have h4:∃r∈L,r.typ=6:=Classical.byContradiction fun h=>h3 (JJ.2 fun r hr h6=>h ⟨r,hr,h6⟩);obtain⟨r,hr,h6⟩:=h4;refine⟨r,hr,h6,?_,(zM (hv.named r hr) hv.ap).1 ((Zv.1 h2).2 r hr h6)⟩;unfold Qx;rw[h6];rfl
end zn
open dt (Fld)
namespace dt
abbrev soaF:List Fld:=[.host,.host,.num 4,.num 4,.num 4,.num 4,.num 4]
theorem YA {f:Fld}{fs:List Fld}{d:ByteArray}{acc ps:List ByteArray}{r:ByteArray}(h:zq (f :: fs) d acc=some (ps,r)):
 0≤jW f d∧zq fs (d.extract (jW f d).toNat d.size) (acc ++ [d.extract 0 (jW f d).toNat])=some (ps,r):=by
 rw[zq]at h
 split at h
 ·cases h
 ·exact⟨by omega,h⟩
theorem splitF_pre:∀(fs:List Fld) (d:ByteArray) (acc ps:List ByteArray) (r:ByteArray),zq fs d acc=some (ps,r)→∃t,ps=acc ++ t:=by
 intro fs
 induction fs with
 | nil=>intro d acc ps r h;simp only[zq,Option.some.injEq,Prod.mk.injEq]at h;exact⟨[],by rw[← h.1];simp⟩
 | cons f fs ih=>
   intro d acc ps r h;obtain⟨_,h2⟩:=YA h;obtain⟨t,ht⟩:=ih _ _ _ _ h2;exact⟨[d.extract 0 (jW f d).toNat] ++ t,by rw[ht,List.append_assoc]⟩
theorem soa_parts {d:ByteArray}{ps:List ByteArray}{r:ByteArray}(h:zq soaF d []=some (ps,r))(hr:r.size=0):ps[2]? =some (d.extract (d.size-20) (d.size-16))∧20≤d.size:=by
 obtain⟨a0,h0⟩:=YA h;have l0:=Y6 .host d
 generalize hn0:(jW .host d).toNat=n0 at h0
 obtain⟨a1,h1⟩:=YA h0;have l1:=Y6 .host (d.extract n0 d.size)
 generalize hn1:(jW .host (d.extract n0 d.size)).toNat=n1 at h1
 have s1:(d.extract n0 d.size).size=d.size-n0:=by rw[ByteArray.size_extract];omega
 generalize hd2:(d.extract n0 d.size).extract n1 (d.extract n0 d.size).size=d2 at h1
 have s2:d2.size=d.size-n0-n1:=by rw[← hd2,ByteArray.size_extract];omega
 obtain⟨a2,h2⟩:=YA h1;rw[num_four]at a2 h2;have f2:¬d2.size<4:=by split at a2 <;> omega
 rw[if_neg f2]at h2;obtain⟨d4,_,s4,h4⟩:=jJ h2;obtain⟨d5,_,s5,h5⟩:=jJ h4;obtain⟨d6,_,s6,h6⟩:=jJ h5;obtain⟨d7,_,s7,h7⟩:=jJ h6;simp only[zq,Option.some.injEq,Prod.mk.injEq]at h7;have e7:d7.size=0:=by rw[h7.2];exact hr
 have s3:(d2.extract (4:Int).toNat d2.size).size=d2.size-4:=by rw[ByteArray.size_extract];omega
 have hz:d2.size=20:=by omega
 obtain⟨t,ht⟩:=splitF_pre _ _ _ _ _ h2;refine⟨?_,by omega⟩;rw[ht];simp only[List.nil_append,List.cons_append,List.getElem?_cons_succ,List.getElem?_cons_zero,Option.some.injEq];apply YI;rw[← hd2,zW,zW,zW,zW];have hl:d.data.toList.length=d.size:=ba_len d;have e1:List.take (d.size-n0) (List.drop n0 d.data.toList)=List.drop n0 d.data.toList:=List.take_of_length_le (by rw[List.length_drop,hl];omega);have e2:List.take ((d.extract n0 d.size).size-n1) (List.drop n1 (List.drop n0 d.data.toList))=List.drop n1 (List.drop n0 d.data.toList):=List.take_of_length_le (by rw[List.length_drop,List.length_drop,hl,s1];omega);rw[e1,e2,List.drop_zero,List.drop_drop];have h4':(4:Int).toNat=4:=rfl;rw[h4',show d.size-16-(d.size-20)=4-0 by omega]
 congr 2
 omega
end dt
theorem rserial_any (z:Nat)(qg:ByteArray)(L:List Rec)(hva:zn.Valid qg L)(r0:Rec)(rest:List Rec)(hrow:zn.qI L (qx qg,6)=r0 :: rest)(w:World)(hz:xA w z qg L):
 Calls Tryz.prog 57 #[.pointer (some ⟨z,0,none⟩)] w fun e w'=>e= .returned (.int .i64 (zn.Zw r0.data))∧Below w.heap.size w w':=by
 have hL:=hva.small;obtain⟨g,cap,hzc,hrec⟩:=hz;have HC:=qe (fun W (hB:Below w.heap.size w W)=>uS hzc hrec hB);obtain⟨q0,q1,_,hcap⟩:=uS hzc hrec (Below.refl _ _);have hform:dt.ui 6=some dt.soaF:=rfl;have hff:=dt.KD hform;have HZC:=qe hzc;have HREC:=qe hrec;have HVA:=qe hva;have jo:=qe hrow;have HFORM:=qe hform;have HFF:=qe hff;clear hzc hrec hva hrow hform hff
 go_enter Tryz.func57,Tryz.ntmps57
 go_wp2_with fail;clear q0 q1
 go_loopw [12,4,5,6] (fun kv _ _ _ wr=>∃k:Nat,k≤L.length∧kv= .int .i64 (k:Int)∧(∀j (hj:j<L.length),j<k→L[j].typ≠6)∧Below w.heap.size w wr) (fun kv _ _ _ _=>L.length-(intOf kv).toNat)
 case atStart=>exact⟨0,Nat.zero_le _,rfl,(fun j hj h=>by omega),Below.refl _ _⟩
 case round=>
  obtain⟨k,hk,rfl,hno,hB⟩:=hrel;have hsr:=hB.size;have HB:=qe hB;clear hB;by_cases hlt:k<L.length
  ·obtain⟨c0,c1,c2,c3,c4⟩:=(HC.out wr HB.out).2.2.1 k hlt;have hki:(k:Int)<(L.length:Int):=by omega
   obtain⟨hBA0,hza,hx⟩:=qY wr _ L[k] rfl;have HBA:=qe (HB.out.trans (hBA0.mono hsr));obtain⟨wa,hwa⟩:∃W,W=wr.alloc (.cells (recC L[k]).toArray 80):=⟨_,rfl⟩;rw[← hwa]at HBA hx hza;have ltb:wr.heap.size<wa.heap.size:=by omega
   clear hBA0;obtain⟨x0,x1,x2,x3,x4⟩:=id hx;by_cases h6:L[k].typ=6
   ·have b6:(L[k].typ == 6)=true:=by rw[beq_iff_eq];exact h6
    have hchk:dt.jd 6 L[k].data=0:=by
     have:=((HVA.out.each _ (List.getElem_mem hlt)).2.1);unfold zn.jV at this;simp only[Bool.not_eq_false',Bool.and_eq_true,decide_eq_true_eq]at this;rw[← h6];exact this.2
    obtain⟨hd,ps,r,hsp,hr0⟩:=chk_fit HFORM.out hchk;obtain⟨hp2,h20⟩:=dt.soa_parts hsp hr0;have hr0e:r0=L[k]:=by
     have he:qx L[k].owner=qx qg:=(zn.zM (HVA.out.named _ (List.getElem_mem hlt)) HVA.out.ap).1 ((zn.Zv.1 (zn.vG HVA.out.rules).2.1).2 _ (List.getElem_mem hlt) h6);have:=zn.rows_head (l:=L) (κ:=(qx qg,6)) hlt (by unfold zn.yg;rw[he,h6]) (fun i hi h e=>by
      unfold zn.yg at e;simp only[Prod.mk.injEq]at e;exact hno i hi h e.2) r0
     rw[jo.out]at this;exact this
    have hpl:=(dt.Yz _ _ _ _ _ hsp).1;have hpl2:ps.length=7:=by simpa using hpl
    have hgood:=dt.Ym HFORM.out;have hparts:=fun W=>Kz dt.soaF (by decide) hgood.1 L[k].data hd W;have hall:∀X:World,Below wa.heap.size wa X→Below wa.heap.size wa X∧X.cell? ⟨wr.heap.size,4,none⟩=some (.string L[k].data):=fun X hX=>⟨hX,(hX.cell (p:=⟨wr.heap.size,4,none⟩) ltb).trans (by simpa using x4)⟩;have hsz:(L[k].data.extract (L[k].data.size-20) (L[k].data.size-16)).size=4:=by rw[ByteArray.size_extract];omega
    have hval:zn.Zw r0.data=(dt.jP (L[k].data.extract (L[k].data.size-20) (L[k].data.size-16)) (L[k].data.extract (L[k].data.size-20) (L[k].data.size-16)).size:Nat):=by rw[hsz,hr0e];rfl
    have h2p:2<ps.length:=by omega
    have hget:ps[2]=L[k].data.extract (L[k].data.size-20) (L[k].data.size-16):=by
     rw[List.getElem?_eq_getElem h2p]at hp2;exact Option.some.inj hp2
    obtain⟨p2,hp2e⟩:∃p,p=ps[2]:=⟨_,rfl⟩;rw[← hget,← hp2e]at hval hsz;have H6:=qe h6;have HCHK:=qe hchk;have HSP:=qe hsp;have HR0:=qe hr0;have HP2:=qe hp2;have HR0E:=qe hr0e;have HPARTS:=qe hparts;have zD:=qe hall;have HVAL:=qe hval;have HGET:=qe hget;have HP2E:=qe hp2e;have HPL:=qe hpl;have HGOOD:=qe hgood;have HX:=qe hx;have HWA:=qe hwa;have HNO:=qe hno;clear h6 hchk hsp hr0 hp2 hr0e hparts hall hval hget hp2e hpl hgood hx hwa hno;clear x0 x2 x3 x4 c0 c1 c2 c3 c4;obtain⟨c0,c1,c2,c3,c4⟩:=(HC.out wr HB.out).2.2.1 k hlt;go_upto_region 5 with fail;rw[← HWA.out]
    go_cut [5] (fun s wx=>∃g cp,s= .slice (some ⟨g,0,none⟩) 7 cp∧7≤cp∧wx.cell? ⟨g,2,none⟩=some (.string p2)∧Below wa.heap.size wa wx)
    case first=>
     clear c0 c1 c2 c3 c4 x1
     go_region_held3 (fun X=>Below wa.heap.size wa X∧X.cell? ⟨wr.heap.size,4,none⟩=some (.string L[k].data))
      (first | assumption | exact zD.out _ (Below.refl _ _).drew | (go_split_ands;exact zD.out _ (by assumption)))
      (first
       | (go_at_call 99;(with_reducible refine(j5 _ _).mono ?_);rintro e wF ⟨rfl,rfl⟩;rw[HFF.out])
       | (go_at_call 98;(with_reducible refine(HPARTS.out _).mono ?_);rintro e wA ⟨hpp,hbA⟩;rw[HSP.out]at hpp;obtain⟨vp,rfl,hop⟩:=hpp;go_split_ands;have Zi:=Below.trans (B:=wa.heap.size) (a:=wa) (by assumption) (hbA.mono (Below.size (by assumption)))))
     all_goals
      obtain⟨gg,cp,rfl,_,_⟩:=hop.form (by omega);have hc2:=xY hop 2 (by rw[List.length_map];omega);rw[List.getElem_map,← HP2E.out]at hc2;obtain⟨_,_,hv',hcp⟩:=qi hop;simp only[Value.slice.injEq,true_and]at hv';go_wp2_with fail;go_meet;exact⟨gg,cp,by rw[hpl2],by omega,hc2,Zi⟩
    case rest=>
    obtain⟨g5,cp,rfl,hcp,hcell,hBc⟩:=hcut;have HBC:=qe (HBA.out.trans (hBc.mono HBA.out.size));clear hBc c0 c1 c2 c3 c4 x1;go_wp2_with fail;refine(XY p2 (by omega) _).mono ?_;rintro e w8 ⟨rfl,rfl⟩;go_wp2_with fail;go_ret;exact⟨by rw[HVAL.out,hsz];rfl,HBC.out⟩
   ·have b6:(L[k].typ == 6)=false:=by rw[beq_eq_false_iff_ne];exact h6
    have yR:∀j (hj:j<L.length),j<k+1→L[j].typ≠6:=fun j hj h=>by
     rcases Nat.lt_or_ge j k with h' | h'
     ·exact hno j hj h'
     ·obtain rfl:j=k:=by omega
      exact h6
    have H6:=qe h6;have HNO:=qe hno;have uk:=qe yR;have HX:=qe hx;have HWA:=qe hwa;clear h6 hno yR hx hwa;go_wp2_with fail
    go_roundw
    case rel=>exact⟨k+1,by omega,by go_num,uk.out,by rw[← HWA.out];exact HBA.out⟩
    case measure=>simp[intOf];omega
  ·exfalso;have hm:r0∈zn.qI L (qx qg,6):=by rw[jo.out];exact List.mem_cons_self ..
   obtain⟨h1,h2⟩:=zn.ko.1 hm;obtain⟨j,hj,rfl⟩:=List.getElem_of_mem h1;exact hno j hj (by omega) (congrArg Prod.snd h2)
end Go.Proofs.YtpcmilhjpmlbpaaGreatDoor
