import Derived.Test.YtdjjemajfphjaaaGreatQRzE
import Derived.Test.YtdjjemajfphjaaaGreatQSerial
import Derived.Test.YtdjjemajfphjaaaGreatQZoneP
import Derived.Test.YtdjjemajfphjaaaGreatQRCon
import Derived.Test.YtdjjemajfphjaaaGreatQUpdU
import Derived.Test.YtdjjemajfphjaaaGreatQUpdG
set_option maxRecDepth 100000
set_option maxHeartbeats 4000000
namespace Go.Proofs.YtdjjemajfphjaaaGreat
open Go.RowKit Go.Shelf nm od
open dt (Fld)
namespace dt
abbrev YH:List Fld:=[.host,.host,.num 4,.num 4,.num 4,.num 4,.num 4]
theorem Ya {f:Fld}{fs:List Fld}{d:ByteArray}{acc ps:List ByteArray}{r:ByteArray}(h:zt (f :: fs) d acc=some (ps,r)):
 0≤jW f d∧zt fs (d.extract (jW f d).toNat d.size) (acc ++ [d.extract 0 (jW f d).toNat])=some (ps,r):=by
 rw[zt]at h
 split at h
 ·cases h
 ·exact⟨by omega,h⟩
theorem splitF_pre:∀(fs:List Fld) (d:ByteArray) (acc ps:List ByteArray) (r:ByteArray),zt fs d acc=some (ps,r)→∃t,ps=acc ++ t:=by
 intro fs
 induction fs with
 | nil=>intro d acc ps r h;simp only[zt,Option.some.injEq,Prod.mk.injEq]at h;exact⟨[],by rw[← h.1];simp⟩
 | cons f fs ih=>
   intro d acc ps r h
   obtain⟨_,h2⟩:=Ya h
   obtain⟨t,ht⟩:=ih _ _ _ _ h2
   exact⟨[d.extract 0 (jW f d).toNat] ++ t,by rw[ht,List.append_assoc]⟩
theorem soa_parts {d:ByteArray}{ps:List ByteArray}{r:ByteArray}(h:zt YH d []=some (ps,r))(hr:r.size=0):ps[2]? =some (d.extract (d.size-20) (d.size-16))∧20≤d.size:=by
 obtain⟨a0,h0⟩:=Ya h
 have l0:=YO .host d
 generalize hn0:(jW .host d).toNat=n0 at h0
 obtain⟨a1,h1⟩:=Ya h0
 have l1:=YO .host (d.extract n0 d.size)
 generalize hn1:(jW .host (d.extract n0 d.size)).toNat=n1 at h1
 have s1:(d.extract n0 d.size).size=d.size-n0:=by rw[ByteArray.size_extract];omega
 generalize hd2:(d.extract n0 d.size).extract n1 (d.extract n0 d.size).size=d2 at h1
 have s2:d2.size=d.size-n0-n1:=by rw[← hd2,ByteArray.size_extract];omega
 obtain⟨a2,h2⟩:=Ya h1
 rw[num_four]at a2 h2
 have f2:¬d2.size<4:=by split at a2 <;> omega
 rw[if_neg f2]at h2
 obtain⟨d4,_,s4,h4⟩:=jJ h2
 obtain⟨d5,_,s5,h5⟩:=jJ h4
 obtain⟨d6,_,s6,h6⟩:=jJ h5
 obtain⟨d7,_,s7,h7⟩:=jJ h6
 simp only[zt,Option.some.injEq,Prod.mk.injEq]at h7
 have e7:d7.size=0:=by rw[h7.2];exact hr
 have s3:(d2.extract (4:Int).toNat d2.size).size=d2.size-4:=by rw[ByteArray.size_extract];omega
 have hz:d2.size=20:=by omega
 obtain⟨t,ht⟩:=splitF_pre _ _ _ _ _ h2
 refine⟨?_,by omega⟩
 rw[ht]
 simp only[List.nil_append,List.cons_append,List.getElem?_cons_succ,List.getElem?_cons_zero,Option.some.injEq]
 apply Yr
 rw[← hd2,zM,zM,zM,zM]
 have hl:d.data.toList.length=d.size:=ba_len d
 have e1:List.take (d.size-n0) (List.drop n0 d.data.toList)=List.drop n0 d.data.toList:=List.take_of_length_le (by rw[List.length_drop,hl];omega)
 have e2:List.take ((d.extract n0 d.size).size-n1) (List.drop n1 (List.drop n0 d.data.toList))=List.drop n1 (List.drop n0 d.data.toList):=List.take_of_length_le (by rw[List.length_drop,List.length_drop,hl,s1];omega)
 rw[e1,e2,List.drop_zero,List.drop_drop]
 have h4':(4:Int).toNat=4:=rfl
 rw[h4',show d.size-16-(d.size-20)=4-0 by omega]
 congr 2
 omega
end dt
theorem rserial_any (z:Nat)(qf:ByteArray)(L:List Rec)(hva:zn.Valid qf L)(r0:Rec)(rest:List Rec)(hrow:zn.qD L (qm qf,6)=r0 :: rest)(w:World)(hz:vO w z qf L):
 Calls Tryz.prog 50 #[.pointer (some ⟨z,0,none⟩)] w fun e w'=>e= .returned (.int .i64 (zn.xL r0.data))∧Below w.heap.size w w':=by
 have hL:=hva.small
 obtain⟨g,cap,hzc,hrec⟩:=hz
 have HC:=Lib.hid (fun W (hB:Below w.heap.size w W)=>jK hzc hrec hB)
 obtain⟨q0,q1,_,hcap⟩:=jK hzc hrec (Below.refl _ _)
 have hform:dt.uq 6=some dt.YH:=rfl
 have hff:=dt.J3 hform
 have HZC:=Lib.hid hzc;have Qv:=Lib.hid hrec;have HVA:=Lib.hid hva;have yU:=Lib.hid hrow;have HFORM:=Lib.hid hform;have HFF:=Lib.hid hff
 clear hzc hrec hva hrow hform hff
 go_enter Tryz.func50,Tryz.ntmps50
 go_wp2_with fail
 clear q0 q1
 go_loopw [12,4,5,6] (fun kv _ _ _ wr=>∃k:Nat,k≤L.length∧kv= .int .i64 (k:Int)∧(∀j (hj:j<L.length),j<k→L[j].typ≠6)∧Below w.heap.size w wr) (fun kv _ _ _ _=>L.length-(intOf kv).toNat)
 case atStart=>exact⟨0,Nat.zero_le _,rfl,(fun j hj h=>by omega),Below.refl _ _⟩
 case round=>
  obtain⟨k,hk,rfl,hno,hB⟩:=hrel
  have hsr:=hB.size
  have HB:=Lib.hid hB
  clear hB
  by_cases hlt:k<L.length
  ·obtain⟨c0,c1,c2,c3,c4⟩:=(HC.out wr HB.out).2.2.1 k hlt
   have hki:(k:Int)<(L.length:Int):=by omega
   obtain⟨K9,hza,hx⟩:=qM wr _ L[k] rfl
   have HBA:=Lib.hid (HB.out.trans (K9.mono hsr))
   obtain⟨wa,hwa⟩:∃W,W=wr.alloc (.cells (recC L[k]).toArray 51):=⟨_,rfl⟩
   rw[← hwa]at HBA hx hza
   have ltb:wr.heap.size<wa.heap.size:=by omega
   clear K9
   obtain⟨x0,x1,x2,x3,x4⟩:=id hx
   by_cases h6:L[k].typ=6
   ·have b6:(L[k].typ == 6)=true:=by rw[beq_iff_eq];exact h6
    have U7:dt.yo 6 L[k].data=0:=by
     have:=((HVA.out.each _ (List.getElem_mem hlt)).2.1)
     unfold zn.jV at this
     simp only[Bool.not_eq_false',Bool.and_eq_true,decide_eq_true_eq]at this
     rw[← h6]
     exact this.2
    obtain⟨hd,ps,r,hsp,hr0⟩:=chk_fit HFORM.out U7
    obtain⟨hp2,h20⟩:=dt.soa_parts hsp hr0
    have hr0e:r0=L[k]:=by
     have he:qm L[k].owner=qm qf:=(zn.zJ (HVA.out.named _ (List.getElem_mem hlt)) HVA.out.ap).1 ((zn.KD.1 (zn.Vs HVA.out.rules).2.1).2 _ (List.getElem_mem hlt) h6)
     have:=zn.rows_head (l:=L) (κ:=(qm qf,6)) hlt (by unfold zn.zh;rw[he,h6]) (fun i hi h e=>by
      unfold zn.zh at e
      simp only[Prod.mk.injEq]at e
      exact hno i hi h e.2) r0
     rw[yU.out]at this
     exact this
    have hpl:=(dt.Z9 _ _ _ _ _ hsp).1
    have hpl2:ps.length=7:=by simpa using hpl
    have hgood:=dt.ZP HFORM.out
    have hparts:=fun W=>J2 dt.YH (by decide) hgood.1 L[k].data hd W
    have hall:∀X:World,Below wa.heap.size wa X→Below wa.heap.size wa X∧X.cell? ⟨wr.heap.size,4,none⟩=some (.string L[k].data):=fun X hX=>⟨hX,(hX.cell (p:=⟨wr.heap.size,4,none⟩) ltb).trans (by simpa using x4)⟩
    have hsz:(L[k].data.extract (L[k].data.size-20) (L[k].data.size-16)).size=4:=by rw[ByteArray.size_extract];omega
    have hval:zn.xL r0.data=(dt.jP (L[k].data.extract (L[k].data.size-20) (L[k].data.size-16)) (L[k].data.extract (L[k].data.size-20) (L[k].data.size-16)).size:Nat):=by rw[hsz,hr0e];rfl
    have h2p:2<ps.length:=by omega
    have hget:ps[2]=L[k].data.extract (L[k].data.size-20) (L[k].data.size-16):=by
     rw[List.getElem?_eq_getElem h2p]at hp2
     exact Option.some.inj hp2
    obtain⟨p2,hp2e⟩:∃p,p=ps[2]:=⟨_,rfl⟩
    rw[← hget,← hp2e]at hval hsz
    have H6:=Lib.hid h6;have HCHK:=Lib.hid U7;have HSP:=Lib.hid hsp;have HR0:=Lib.hid hr0;have HP2:=Lib.hid hp2;have HR0E:=Lib.hid hr0e;have HPARTS:=Lib.hid hparts;have Yt:=Lib.hid hall;have HVAL:=Lib.hid hval;have HGET:=Lib.hid hget;have HP2E:=Lib.hid hp2e;have HPL:=Lib.hid hpl;have HGOOD:=Lib.hid hgood;have HX:=Lib.hid hx;have HWA:=Lib.hid hwa;have HNO:=Lib.hid hno
    clear h6 U7 hsp hr0 hp2 hr0e hparts hall hval hget hp2e hpl hgood hx hwa hno
    clear x0 x2 x3 x4 c0 c1 c2 c3 c4
    obtain⟨c0,c1,c2,c3,c4⟩:=(HC.out wr HB.out).2.2.1 k hlt
    go_upto_region 5 with fail
    rw[← HWA.out]
    go_cut [5] (fun s wx=>∃g cp,s= .slice (some ⟨g,0,none⟩) 7 cp∧7≤cp∧wx.cell? ⟨g,2,none⟩=some (.string p2)∧Below wa.heap.size wa wx)
    case first=>
     clear c0 c1 c2 c3 c4 x1
     go_region_held3 (fun X=>Below wa.heap.size wa X∧X.cell? ⟨wr.heap.size,4,none⟩=some (.string L[k].data))
      (first | assumption | exact Yt.out _ (Below.refl _ _).drew | (go_split_ands;exact Yt.out _ (by assumption)))
      (first
       | (go_at_call 102;(with_reducible refine(ko _ _).mono ?_);rintro e wF ⟨rfl,rfl⟩;rw[HFF.out])
       | (go_at_call 101;(with_reducible refine(HPARTS.out _).mono ?_);rintro e wA ⟨hpp,hbA⟩;rw[HSP.out]at hpp;obtain⟨vp,rfl,hop⟩:=hpp;go_split_ands;have QM:=Below.trans (B:=wa.heap.size) (a:=wa) (by assumption) (hbA.mono (Below.size (by assumption)))))
     all_goals
      obtain⟨gg,cp,rfl,_,_⟩:=hop.form (by omega)
      have hc2:=xM hop 2 (by rw[List.length_map];omega)
      rw[List.getElem_map,← HP2E.out]at hc2
      obtain⟨_,_,hv',hcp⟩:=qC hop
      simp only[Value.slice.injEq,true_and]at hv'
      go_wp2_with fail
      go_meet
      exact⟨gg,cp,by rw[hpl2],by omega,hc2,QM⟩
    case rest=>
    obtain⟨g5,cp,rfl,hcp,hcell,hBc⟩:=hcut
    have HBC:=Lib.hid (HBA.out.trans (hBc.mono HBA.out.size))
    clear hBc c0 c1 c2 c3 c4 x1
    go_wp2_with fail
    refine(Xt p2 (by omega) _).mono ?_
    rintro e w8 ⟨rfl,rfl⟩
    go_wp2_with fail
    go_ret
    exact⟨by rw[HVAL.out,hsz];rfl,HBC.out⟩
   ·have b6:(L[k].typ == 6)=false:=by rw[beq_eq_false_iff_ne];exact h6
    have yR:∀j (hj:j<L.length),j<k+1→L[j].typ≠6:=fun j hj h=>by
     rcases Nat.lt_or_ge j k with h' | h'
     ·exact hno j hj h'
     ·obtain rfl:j=k:=by omega
      exact h6
    have H6:=Lib.hid h6;have HNO:=Lib.hid hno;have uO:=Lib.hid yR;have HX:=Lib.hid hx;have HWA:=Lib.hid hwa
    clear h6 hno yR hx hwa
    go_wp2_with fail
    go_roundw
    case rel=>exact⟨k+1,by omega,by go_num,uO.out,by rw[← HWA.out];exact HBA.out⟩
    case measure=>simp[intOf];omega
  ·exfalso
   have hm:r0∈zn.qD L (qm qf,6):=by rw[yU.out];exact List.mem_cons_self ..
   obtain⟨h1,h2⟩:=zn.ky.1 hm
   obtain⟨j,hj,rfl⟩:=List.getElem_of_mem h1
   exact hno j hj (by omega) (congrArg Prod.snd h2)
end Go.Proofs.YtdjjemajfphjaaaGreat
namespace Go.Proofs.YtdjjemajfphjaaaGreat
open Go.RowKit Go.Shelf nm od
theorem QY (g:FuncId)(lb:Array Value)(heg:∀args w,(callFunc g args).run Tryz.prog w= .ok (.enter g args) w)(p:Rec→Bool)(l:List Rec)(hl:l.length≤1000000000)(v:Value)(w:World)(hrv:qy w v l)
 (hcall:∀r,r∈l→∀X,Below w.heap.size w X→Calls Tryz.prog g (#[zB r] ++ lb) X fun e X'=>e= .returned (.bool (p r))∧Below X.heap.size X X'):
 Calls Tryz.prog 96 #[v,.func (.func g) #[] lb] w fun e w'=>Zg (l.filter fun x=>!p x) w e w':=by
 have HV:=Lib.hid hrv
 obtain⟨va,vc,rfl,-⟩:=id hrv
 have Qd:=Lib.hid hcall
 clear hrv hcall
 obtain⟨kX,uz,uy,jd,jc⟩:=info_parts jM
 have kZ:=Lib.hid uz;have kY:=Lib.hid uy;have yK:=Lib.hid jd;have yJ:=Lib.hid jc
 clear uz uy jd jc
 go_enter Tryz.func96,Tryz.ntmps96
 go_wp2_with fail
 go_loopw [10,5] (fun kv ov wr=>∃k:Nat,k≤l.length∧kv= .int .i64 (k:Int)∧Hid (wr.ownsRow w.heap.size 51 5 ov ((l.take k).filter fun x=>!p x).length (qG ((l.take k).filter fun x=>!p x))∧Below w.heap.size w wr)) (fun kv _ _=>l.length-(intOf kv).toNat)
 case atStart=>exact⟨0,Nat.zero_le _,rfl,Lib.hid ⟨World.ownsRow_nil _ _ _ _,Below.refl _ _⟩⟩
 case round=>
  obtain⟨k,hk,rfl,HR⟩:=hrel
  obtain⟨w3,hw3⟩:∃X:World,X=wr:=⟨_,rfl⟩
  subst hw3
  obtain⟨K,hK⟩:∃K,K=(l.take k).filter fun x=>!p x:=⟨_,rfl⟩
  have yU:=Lib.hid HR.out.1
  have hKl:K.length≤l.length:=by rw[hK];exact Nat.le_trans (List.length_filter_le _ _) (by rw[List.length_take];omega)
  rw[← hK]at yU
  have HK:=Lib.hid hK
  clear hK
  obtain⟨oa,oc,hov,-⟩:=qC yU.out
  subst hov
  by_cases hlt:k<l.length
  ·have hki:(k:Int)<(l.length:Int):=by omega
   obtain⟨bb,off,rfl⟩:=yI HV.out (Nat.lt_of_le_of_lt (Nat.zero_le _) hlt)
   obtain⟨c0,c1,c2,c3,c4⟩:=yP (HV.out.below HR.out.2) hlt
   obtain⟨x,hx⟩:∃x,x=l[k]:=⟨_,rfl⟩
   rw[← hx]at c0 c1 c2 c3 c4
   obtain⟨wa,hwa⟩:∃W,W=w3.alloc (.cells (recC x).toArray 51):=⟨_,rfl⟩
   obtain⟨hBa,hsa,hxa⟩:=qM w3 wa x hwa
   obtain⟨bx,hbx⟩:∃b,b=w3.heap.size:=⟨_,rfl⟩
   rw[← hbx]at hxa
   have zU:bx<wa.heap.size:=by omega
   obtain⟨x0,x1,x2,x3,x4⟩:=id hxa
   have HWA:=Lib.hid hwa;have HX:=Lib.hid hx;have HLT:=Lib.hid hlt;have HXA:=Lib.hid hxa;have yH:=Lib.hid zU;have HBX:=Lib.hid hbx
   have HB4:=Lib.hid (HR.out.2.trans (hBa.mono HR.out.2.size))
   have YE:=Lib.hid (ownsRow_below yU.out hBa)
   have HC:=Lib.hid (Qd.out x (by rw[hx];exact List.getElem_mem _) wa HB4.out)
   have HSN:=Lib.hid (show(l.take (k+1)).filter (fun x=>!p x)=K ++ if p x=true then [] else [x] by rw[keep_snoc hlt,HK.out,← hx])
   clear hwa hx hBa hsa hxa zU hbx
   go_upto_region 5 with fail
   rw[← HWA.out,← HBX.out]
   clear c0 c1 c2 c3 c4
   go_wp2_with fail
   refine HC.out.mono ?_
   rintro e w5 ⟨rfl,hB5⟩
   obtain⟨y0,y1,y2,y3,y4⟩:=HXA.out.keep (hB5.block bx yH.out)
   have HROWb:=Lib.hid (ownsRow_below YE.out hB5)
   have HB5:=Lib.hid (HB4.out.trans (hB5.mono HB4.out.size))
   obtain⟨ab,hab⟩:∃ab,ab=p x:=⟨_,rfl⟩
   rw[← hab]
   have HAB:=Lib.hid hab
   clear hB5 hab x0 x1 x2 x3 x4
   cases ab
   ·have HE:=Lib.hid (show(l.take (k+1)).filter (fun x=>!p x)=K ++ [x] by rw[HSN.out,← HAB.out];rfl)
    have yw:=Lib.hid (HB5.out.alloc HB5.out.size (.cells (recC x).toArray 51))
    have zy:=Lib.hid (qi HROWb.out fun b hb=>Below.heap_alloc w5 (.cells (recC x).toArray 51) b (HROWb.out.lt b hb).2)
    have yu:=Lib.hid (show K.length+1≤maxLen from by unfold maxLen;omega)
    have yt:=Lib.hid (show(K.length+1)*56≤140737488355328 from by omega)
    have zx:=Lib.hid (show w.heap.size≤(w5.alloc (.cells (recC x).toArray 51)).heap.size from by have:=HB5.out.size;simp;omega)
    have qX:=Lib.hid (yA w5 (recC x) 51)
    go_wp2_with (at_builtin;refine qF _ rfl _ _ 22 rfl w.heap.size 51 kX (.agg #[.string ⟨#[]⟩,.int .i64 0,.int .i64 0,.int .i64 0,.string ⟨#[]⟩]) 5 56 Tryz.underlying22 kZ.out kY.out yK.out yJ.out rfl (by decide) _ _ _ rfl zy.out ⟨w5.heap.size,0,none⟩ 1 1 (recC x) rfl rfl qX.out (by simp[Value.oneCell']) yu.out yt.out zx.out ?_)
    intro v' w10 qI q9 zi
    have zw:=Lib.hid (yw.out.grown q9 zx.out (fun j hj=>(zy.out.lt j hj).1))
    have qQ:=Lib.hid qI;have vg:=Lib.hid q9;have jE:=Lib.hid zi
    clear qI q9 zi yw zy yu yt zx qX
    clear y0 y1 y2 y3 y4
    go_wp2_with fail
    go_roundw
    case rel=>
     refine⟨k+1,by omega,by go_num,Lib.hid ⟨?_,zw.out⟩⟩
     rw[HE.out,List.length_append,List.length_singleton,zq]
     exact qQ.out
    case measure=>simp[intOf];omega
   ·have HE:=Lib.hid (show(l.take (k+1)).filter (fun x=>!p x)=K by rw[HSN.out,← HAB.out];simp)
    go_wp2_with fail
    go_roundw
    case rel=>exact⟨k+1,by omega,by go_num,Lib.hid ⟨by rw[HE.out];exact HROWb.out,HB5.out⟩⟩
    case measure=>simp[intOf];omega
  ·obtain rfl:k=l.length:=by omega
   have HE:=Lib.hid (show K=l.filter (fun x=>!p x) by rw[HK.out,List.take_length])
   clear hlt
   go_wp2_with fail
   go_ret
   exact⟨_,rfl,HR.out.2,by rw[← HE.out];exact yU.out⟩
theorem rgoes3_any (x y:Rec)(sx:x.owner.size≤1099511627776)(sy:y.owner.size≤1099511627776)(bx:Nat)(w:World)(hx:QT w bx 0 x)(lx:bx<w.heap.size):
 Calls Tryz.prog 99 #[zB y,.pointer (some ⟨bx,0,none⟩)] w fun e w'=>e= .returned (.bool (zn.qW x y))∧Below w.heap.size w w':=by
 obtain⟨wa,hwa⟩:∃W,W=w.alloc (.cells (recC y).toArray 51):=⟨_,rfl⟩
 obtain⟨hBa,hsa,hxa⟩:=qM w wa y hwa
 obtain⟨by_,hby⟩:∃b,b=w.heap.size:=⟨_,rfl⟩
 rw[← hby]at hxa
 have vW:by_<wa.heap.size:=by omega
 obtain⟨y0,y1,y2,y3,y4⟩:=id hxa
 have HWA:=Lib.hid hwa;have HBY:=Lib.hid hby;have QX:=Lib.hid vW;have HYA:=Lib.hid hxa;have HBA:=Lib.hid hBa
 have HXX:=Lib.hid (hx.keep (hBa.block bx lx))
 have LX:=Lib.hid (Nat.lt_of_lt_of_le lx hBa.size)
 obtain⟨x0,x1,x2,x3,x4⟩:=id HXX.out
 simp only[Nat.zero_add]at x1 x2 x3 x4
 clear hwa hBa hsa hxa hby vW hx lx
 go_enter Tryz.func99,Tryz.ntmps99
 go_upto_region 1 with fail
 rw[← HWA.out,← HBY.out]
 go_wp2_with fail
 refine(xz x y sx sy wa).mono ?_
 rintro e w1 ⟨rfl,hB1⟩
 have HB1:=Lib.hid (HBA.out.trans (hB1.mono HBA.out.size))
 clear hB1 x0 x1 x2 x3 x4 y0 y1 y2 y3 y4
 go_wp2_with fail
 go_ret
 exact⟨rfl,HB1.out⟩
theorem rgoes2_any (qf:ByteArray)(y:Rec)(sa:qf.size≤1099511627776)(sy:y.owner.size≤1099511627776)(ba:Nat)(w:World)(ha:w.cell? ⟨ba,0,none⟩=some (.string qf))(la:ba<w.heap.size):
 Calls Tryz.prog 98 #[zB y,.pointer (some ⟨ba,0,none⟩)] w fun e w'=>e= .returned (.bool (!(decide (y.typ=2) && qz y.owner qf)))∧Below w.heap.size w w':=by
 obtain⟨wa,hwa⟩:∃W,W=w.alloc (.cells (recC y).toArray 51):=⟨_,rfl⟩
 obtain⟨hBa,hsa,hxa⟩:=qM w wa y hwa
 obtain⟨by_,hby⟩:∃b,b=w.heap.size:=⟨_,rfl⟩
 rw[← hby]at hxa
 have vW:by_<wa.heap.size:=by omega
 obtain⟨y0,y1,y2,y3,y4⟩:=id hxa
 have HWA:=Lib.hid hwa;have HBY:=Lib.hid hby;have QX:=Lib.hid vW;have HYA:=Lib.hid hxa;have HBA:=Lib.hid hBa
 have a0:=(hBa.cell (p:=⟨ba,0,none⟩) la).trans ha
 clear hwa hBa hsa hxa hby vW ha la
 go_enter Tryz.func98,Tryz.ntmps98
 go_upto_region 1 with fail
 rw[← HWA.out,← HBY.out]
 by_cases k2:y.typ=2
 ·have d2:(y.typ != 2)=false:=by rw[bne_eq_false_iff_eq];exact k2
  have HR:=Lib.hid (show(!(decide (y.typ=2) && qz y.owner qf))= !qz y.owner qf by simp[k2])
  clear k2
  go_wp2_with fail
  refine(zk y.owner qf sy sa wa).mono ?_
  rintro e w1 ⟨rfl,hB1⟩
  have HB1:=Lib.hid (HBA.out.trans (hB1.mono HBA.out.size))
  clear hB1 y0 y1 y2 y3 y4 a0
  go_wp2_with fail
  go_ret
  exact⟨qA HR.out.symm,HB1.out⟩
 ·have d2:(y.typ != 2)=true:=by rw[bne_iff_ne];exact k2
  have HR:=Lib.hid (show(!(decide (y.typ=2) && qz y.owner qf))=true by simp[k2])
  clear k2
  go_wp2_with fail
  go_ret
  exact⟨qA HR.out.symm,HBA.out⟩
def up.JN (x y:Rec):Bool:=zn.qW x y || (decide (x.typ=5) && decide (y.typ=5) && qz x.owner y.owner)
theorem rgoesA_any (x y:Rec)(sx:x.owner.size≤1099511627776)(sy:y.owner.size≤1099511627776)(bx:Nat)(w:World)(hx:QT w bx 0 x)(lx:bx<w.heap.size):
 Calls Tryz.prog 143 #[zB y,.pointer (some ⟨bx,0,none⟩)] w fun e w'=>e= .returned (.bool (up.JN x y))∧Below w.heap.size w w':=by
 obtain⟨wa,hwa⟩:∃W,W=w.alloc (.cells (recC y).toArray 51):=⟨_,rfl⟩
 obtain⟨hBa,hsa,hxa⟩:=qM w wa y hwa
 obtain⟨by_,hby⟩:∃b,b=w.heap.size:=⟨_,rfl⟩
 rw[← hby]at hxa
 have vW:by_<wa.heap.size:=by omega
 obtain⟨y0,y1,y2,y3,y4⟩:=id hxa
 have HWA:=Lib.hid hwa;have HBY:=Lib.hid hby;have QX:=Lib.hid vW;have HYA:=Lib.hid hxa;have HBA:=Lib.hid hBa
 have HXX:=Lib.hid (hx.keep (hBa.block bx lx))
 have LX:=Lib.hid (Nat.lt_of_lt_of_le lx hBa.size)
 obtain⟨x0,x1,x2,x3,x4⟩:=id HXX.out
 simp only[Nat.zero_add]at x1 x2 x3 x4
 clear hwa hBa hsa hxa hby vW hx lx
 go_enter Tryz.func143,Tryz.ntmps143
 go_upto_region 1 with fail
 rw[← HWA.out,← HBY.out]
 go_wp2_with fail
 refine(xz x y sx sy wa).mono ?_
 rintro e w1 ⟨rfl,hB1⟩
 have HX1:=Lib.hid (HXX.out.keep (hB1.block bx LX.out));have HY1:=Lib.hid (HYA.out.keep (hB1.block by_ QX.out))
 have HB1:=Lib.hid (HBA.out.trans (hB1.mono HBA.out.size))
 clear hB1 x0 x1 x2 x3 x4 y0 y1 y2 y3 y4
 obtain⟨x0,x1,x2,x3,x4⟩:=id HX1.out
 obtain⟨y0,y1,y2,y3,y4⟩:=id HY1.out
 obtain⟨ab,hab⟩:∃ab,ab=zn.qW x y:=⟨_,rfl⟩
 rw[← hab]
 have HG:=Lib.hid (show up.JN x y=(ab || (decide (x.typ=5) && decide (y.typ=5) && qz x.owner y.owner)) by unfold up.JN;rw[hab])
 clear hab
 cases ab
 ·by_cases k1:x.typ=5
  ·have d1:(x.typ == 5)=true:=by rw[beq_iff_eq];exact k1
   by_cases k2:y.typ=5
   ·have d2:(y.typ == 5)=true:=by rw[beq_iff_eq];exact k2
    have HR:=Lib.hid (show up.JN x y=qz x.owner y.owner by rw[HG.out];simp[k1,k2])
    clear k1 k2
    go_wp2_with fail
    refine(zk x.owner y.owner sx sy w1).mono ?_
    rintro e w2 ⟨rfl,hB2⟩
    have HB2:=Lib.hid (HB1.out.trans (hB2.mono HB1.out.size))
    clear hB2 x0 x1 x2 x3 x4 y0 y1 y2 y3 y4
    go_wp2_with fail
    go_ret
    exact⟨qA HR.out.symm,HB2.out⟩
   ·have d2:(y.typ == 5)=false:=by rw[beq_eq_false_iff_ne];exact k2
    have HR:=Lib.hid (show up.JN x y=false by rw[HG.out];simp[k2])
    clear k1 k2
    go_wp2_with fail
    go_ret
    exact⟨qA HR.out.symm,HB1.out⟩
  ·have d1:(x.typ == 5)=false:=by rw[beq_eq_false_iff_ne];exact k1
   have HR:=Lib.hid (show up.JN x y=false by rw[HG.out];simp[k1])
   clear k1
   go_wp2_with fail
   go_ret
   exact⟨qA HR.out.symm,HB1.out⟩
 ·have HR:=Lib.hid (show up.JN x y=true by rw[HG.out];rfl)
  go_wp2_with fail
  go_ret
  exact⟨qA HR.out.symm,HB1.out⟩
end Go.Proofs.YtdjjemajfphjaaaGreat
namespace Go.Proofs.YtdjjemajfphjaaaGreat
open Go.RowKit Go.Shelf nm od
def up.goB (top:Bool)(x y:Rec):Bool:=qz x.owner y.owner && (decide (x.typ=255) || decide (x.typ=y.typ)) && !(top && (decide (y.typ=6) || decide (y.typ=2)))
theorem rgoes1_any (x y:Rec)(top:Bool)(sx:x.owner.size≤1099511627776)(sy:y.owner.size≤1099511627776)(bx bt:Nat)(w:World)(hx:QT w bx 0 x)(lx:bx<w.heap.size)(ht:w.cell? ⟨bt,0,none⟩=some (.bool top))(lt:bt<w.heap.size):
 Calls Tryz.prog 97 #[zB y,.pointer (some ⟨bx,0,none⟩),.pointer (some ⟨bt,0,none⟩)] w fun e w'=>e= .returned (.bool (up.goB top x y))∧Below w.heap.size w w':=by
 obtain⟨wa,hwa⟩:∃W,W=w.alloc (.cells (recC y).toArray 51):=⟨_,rfl⟩
 obtain⟨hBa,hsa,hxa⟩:=qM w wa y hwa
 obtain⟨by_,hby⟩:∃b,b=w.heap.size:=⟨_,rfl⟩
 rw[← hby]at hxa
 have vW:by_<wa.heap.size:=by omega
 obtain⟨y0,y1,y2,y3,y4⟩:=id hxa
 have HWA:=Lib.hid hwa;have HBY:=Lib.hid hby;have QX:=Lib.hid vW;have HYA:=Lib.hid hxa;have HBA:=Lib.hid hBa
 have HXX:=Lib.hid (hx.keep (hBa.block bx lx))
 have LX:=Lib.hid (Nat.lt_of_lt_of_le lx hBa.size)
 have t0:=(hBa.cell (p:=⟨bt,0,none⟩) lt).trans ht
 have HT0:=Lib.hid t0;have LT:=Lib.hid (Nat.lt_of_lt_of_le lt hBa.size)
 obtain⟨x0,x1,x2,x3,x4⟩:=id HXX.out
 clear hwa hBa hsa hxa hby vW hx lx ht lt
 go_enter Tryz.func97,Tryz.ntmps97
 go_upto_region 1 with fail
 rw[← HWA.out,← HBY.out]
 go_wp2_with fail
 refine(zk x.owner y.owner sx sy wa).mono ?_
 rintro e w1 ⟨rfl,hB1⟩
 have HX1:=Lib.hid (HXX.out.keep (hB1.block bx LX.out));have HY1:=Lib.hid (HYA.out.keep (hB1.block by_ QX.out))
 have t1:=(hB1.cell (p:=⟨bt,0,none⟩) LT.out).trans HT0.out
 have HB1:=Lib.hid (HBA.out.trans (hB1.mono HBA.out.size))
 clear hB1 x0 x1 x2 x3 x4 y0 y1 y2 y3 y4 t0
 obtain⟨x0,x1,x2,x3,x4⟩:=id HX1.out
 obtain⟨y0,y1,y2,y3,y4⟩:=id HY1.out
 obtain⟨eb,heb⟩:∃eb,eb=qz x.owner y.owner:=⟨_,rfl⟩
 rw[← heb]
 have HG:=Lib.hid (show ∀t,up.goB t x y=(eb && (decide (x.typ=255) || decide (x.typ=y.typ)) && !(t && (decide (y.typ=6) || decide (y.typ=2)))) from fun t=>by unfold up.goB;rw[heb])
 clear heb
 cases eb
 ·have HR:=Lib.hid (show up.goB top x y=false by rw[HG.out];rfl)
  go_wp2_with fail
  go_ret
  exact⟨qA HR.out.symm,HB1.out⟩
 ·by_cases k1:x.typ=255
  ·have d1:(x.typ == 255)=true:=by rw[beq_iff_eq];exact k1
   cases top
   ·have HR:=Lib.hid (show up.goB false x y=true by rw[HG.out];simp[k1])
    clear k1
    go_wp2_with fail
    go_ret
    exact⟨qA HR.out.symm,HB1.out⟩
   ·by_cases k6:y.typ=6
    ·have d6:(y.typ == 6)=true:=by rw[beq_iff_eq];exact k6
     have HR:=Lib.hid (show up.goB true x y=false by rw[HG.out];simp[k6])
     clear k1 k6
     go_wp2_with fail
     go_ret
     exact⟨qA HR.out.symm,HB1.out⟩
    ·have d6:(y.typ == 6)=false:=by rw[beq_eq_false_iff_ne];exact k6
     by_cases k2:y.typ=2
     ·have d2:(y.typ == 2)=true:=by rw[beq_iff_eq];exact k2
      have HR:=Lib.hid (show up.goB true x y=false by rw[HG.out];simp[k2])
      clear k1 k6 k2
      go_wp2_with fail
      go_ret
      exact⟨qA HR.out.symm,HB1.out⟩
     ·have d2:(y.typ == 2)=false:=by rw[beq_eq_false_iff_ne];exact k2
      have HR:=Lib.hid (show up.goB true x y=true by rw[HG.out];simp[k6,k2,k1])
      clear k1 k6 k2
      go_wp2_with fail
      go_ret
      exact⟨qA HR.out.symm,HB1.out⟩
  ·have d1:(x.typ == 255)=false:=by rw[beq_eq_false_iff_ne];exact k1
   by_cases k2':x.typ=y.typ
   ·have d2':(x.typ == y.typ)=true:=by rw[beq_iff_eq];exact k2'
    have HKK:=Lib.hid (show(decide (x.typ=255) || decide (x.typ=y.typ))=true by simp[k2'])
    cases top
    ·have HR:=Lib.hid (show up.goB false x y=true by rw[HG.out];simp[HKK.out])
     clear k1 k2'
     go_wp2_with fail
     go_ret
     exact⟨qA HR.out.symm,HB1.out⟩
    ·by_cases k6:y.typ=6
     ·have d6:(y.typ == 6)=true:=by rw[beq_iff_eq];exact k6
      have HR:=Lib.hid (show up.goB true x y=false by rw[HG.out];simp[k6])
      clear k1 k2' k6
      go_wp2_with fail
      go_ret
      exact⟨qA HR.out.symm,HB1.out⟩
     ·have d6:(y.typ == 6)=false:=by rw[beq_eq_false_iff_ne];exact k6
      by_cases k2:y.typ=2
      ·have d2:(y.typ == 2)=true:=by rw[beq_iff_eq];exact k2
       have HR:=Lib.hid (show up.goB true x y=false by rw[HG.out];simp[k2])
       clear k1 k2' k6 k2
       go_wp2_with fail
       go_ret
       exact⟨qA HR.out.symm,HB1.out⟩
      ·have d2:(y.typ == 2)=false:=by rw[beq_eq_false_iff_ne];exact k2
       have HR:=Lib.hid (show up.goB true x y=true by rw[HG.out];simp[k6,k2,HKK.out])
       clear k1 k2' k6 k2
       go_wp2_with fail
       go_ret
       exact⟨qA HR.out.symm,HB1.out⟩
   ·have d2':(x.typ == y.typ)=false:=by rw[beq_eq_false_iff_ne];exact k2'
    have HR:=Lib.hid (show up.goB top x y=false by rw[HG.out];simp[k1,k2'])
    clear k1 k2'
    go_wp2_with fail
    go_ret
    exact⟨qA HR.out.symm,HB1.out⟩
theorem YS (x:Rec)(h1:20≤x.data.size)(h2:x.data.size≤1099511627776)(w:World):
 Calls Tryz.prog 49 #[zB x] w fun e w'=>e= .returned (.int .i64 (up.Qg x.data))∧Below w.heap.size w w':=by
 obtain⟨wa,hwa⟩:∃W,W=w.alloc (.cells (recC x).toArray 51):=⟨_,rfl⟩
 obtain⟨hBa,hsa,hxa⟩:=qM w wa x hwa
 obtain⟨bx,hbx⟩:∃b,b=w.heap.size:=⟨_,rfl⟩
 rw[← hbx]at hxa
 obtain⟨x0,x1,x2,x3,x4⟩:=id hxa
 obtain⟨e,he⟩:∃e,e=x.data.extract (x.data.size-20) (x.data.size-16):=⟨_,rfl⟩
 have hes:e.size≤6:=by rw[he,ByteArray.size_extract];omega
 have HV:=Lib.hid (fun X=>Xt e hes X)
 have HR:=Lib.hid (show up.Qg x.data=((dt.jP e e.size:Nat):Int) by unfold up.Qg;rw[he])
 have HWA:=Lib.hid hwa;have HBX:=Lib.hid hbx;have HBA:=Lib.hid hBa;have HE:=Lib.hid he
 clear hwa hbx hxa hBa hsa he hes
 go_enter Tryz.func49,Tryz.ntmps49
 go_upto_region 1 with fail
 rw[← HWA.out,← HBX.out]
 go_wp2_with fail
 rw[← HE.out]
 refine(HV.out _).mono ?_
 rintro e w1 ⟨rfl,rfl⟩
 go_wp2_with fail
 go_ret
 exact⟨by rw[HR.out];rfl,HBA.out⟩
end Go.Proofs.YtdjjemajfphjaaaGreat
