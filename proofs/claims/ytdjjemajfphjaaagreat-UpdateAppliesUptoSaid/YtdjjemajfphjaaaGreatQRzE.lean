import Derived.Test.YtdjjemajfphjaaaGreatQRefY
import Derived.Test.YtdjjemajfphjaaaGreatQSerial
set_option maxRecDepth 100000
set_option maxHeartbeats 2000000
namespace Go.Proofs.YtdjjemajfphjaaaGreat
open Go.RowKit Go.Shelf nm od
namespace zn
theorem rows_filter {L:List Rec}(hn:jH L)(n:ByteArray)(t:Int):L.filter (fun r=>decide (r.typ=t) && qz r.owner n)=qD L (qm n,t):=by
 unfold qD
 apply List.filter_congr
 intro r hr
 cases hc:ql n
 ·have h1:qz r.owner n=false:=by unfold qz;rw[hc];simp
  have h2:qm n=ByteArray.empty:=fold_none hc
  rw[h1,Bool.and_false]
  symm
  rw[decide_eq_false_iff_not]
  unfold zh
  simp only[Prod.mk.injEq]
  rintro⟨e,_⟩
  obtain⟨x,hx⟩:=zT (hn r hr)
  have h3:=kg hx
  rw[e,h2]at h3
  have:=vX h3
  rw[empty_check]at this
  cases this
 ·unfold zh
  rw[Bool.eq_iff_iff]
  simp only[Bool.and_eq_true,decide_eq_true_eq,Prod.mk.injEq]
  rw[zJ (hn r hr) hc]
  exact And.comm
def yX (L:List Rec)(n:ByteArray):Bool:=L.any fun r=>!zV r && qU r.owner n
theorem rthere_iff {L:List Rec}{n:ByteArray}:yX L n=true↔∃r∈L,zV r=false∧qU r.owner n=true:=by
 unfold yX
 rw[List.any_eq_true]
 simp
theorem filter_next {α:Type}{L:List α}{k:Nat}(h:k<L.length)(p:α→Bool):(L.take (k+1)).filter p=if p L[k]=true then(L.take k).filter p ++ [L[k]] else(L.take k).filter p:=by
 rw[List.take_succ_eq_append_getElem h,List.filter_append]
 by_cases hp:p L[k]=true
 ·rw[if_pos hp,List.filter_cons,if_pos hp];rfl
 ·rw[if_neg hp,List.filter_cons,if_neg hp];simp
theorem filter_take_le {α:Type}(L:List α)(k:Nat)(p:α→Bool):((L.take k).filter p).length≤L.length:=Nat.le_trans (List.length_filter_le _ _) (by rw[List.length_take];omega)
end zn
theorem jK {w w':World}{z:Nat}{qf:ByteArray}{L:List Rec}{g cap:Nat}(hz:w.heap[z]? =some (.cells #[.string qf,.slice (some ⟨g,0,none⟩) L.length cap] 44 (0,0)))(hr:qy w (.slice (some ⟨g,0,none⟩) L.length cap) L)(hB:Below w.heap.size w w'):
 w'.cell? ⟨z,0,none⟩=some (.string qf)∧w'.cell? ⟨z,1,none⟩=some (.slice (some ⟨g,0,none⟩) L.length cap)∧(∀k (hk:k<L.length),QT w' g (k*5) L[k])∧L.length≤cap:=by
 have h1:=(hB.block z (qw hz)).trans hz
 refine⟨by rw[qg h1];rfl,by rw[qg h1];rfl,fun k hk=>?_,?_⟩
 ·have:=(zo (hr.below hB) hk).2
  rw[Nat.zero_add]at this
  exact this
 ·obtain⟨a,c,hv,hc,_⟩:=hr
  simp only[Value.slice.injEq]at hv
  omega
theorem Xy (z:Nat)(qf:ByteArray)(L:List Rec)(hL:L.length≤2000)(hnm:zn.jH L)(n:ByteArray)(hn:n.size≤1099511627776)(t:Int)(w:World)(hz:vO w z qf L):
 Calls Tryz.prog 78 #[.pointer (some ⟨z,0,none⟩),.string n,.int .i64 t] w fun e w'=>Zg (zn.qD L (qm n,t)) w e w':=by
 obtain⟨g,cap,hzc,hrec⟩:=hz
 have hall:=zn.rows_filter hnm n t
 obtain⟨p,hp⟩:∃p:Rec→Bool,p=fun r=>decide (r.typ=t) && qz r.owner n:=⟨_,rfl⟩
 rw[← hp]at hall
 have hsz:∀k (hk:k<L.length),L[k].owner.size≤1099511627776:=fun k hk=>by have:=qP (hnm _ (List.getElem_mem hk));omega
 have HC:=Lib.hid (fun W (hB:Below w.heap.size w W)=>jK hzc hrec hB)
 obtain⟨q0,q1,_,hcap⟩:=jK hzc hrec (Below.refl _ _)
 obtain⟨kX,uz,uy,jd,jc⟩:=info_parts jM
 have kZ:=Lib.hid uz;have kY:=Lib.hid uy;have yK:=Lib.hid jd;have yJ:=Lib.hid jc
 clear uz uy jd jc
 have HZC:=Lib.hid hzc;have Qv:=Lib.hid hrec;have Yt:=Lib.hid hall;have HP:=Lib.hid hp;have HSZ:=Lib.hid hsz;have HNM:=Lib.hid hnm
 clear hzc hrec hall hp hsz hnm
 go_enter Tryz.func78,Tryz.ntmps78
 go_wp2_with fail
 clear q0 q1
 go_loopw [15,7,9] (fun kv v _ wr=>∃k:Nat,k≤L.length∧kv= .int .i64 (k:Int)∧wr.ownsRow w.heap.size 51 5 v ((L.take k).filter p).length (qG ((L.take k).filter p))∧Below w.heap.size w wr) (fun kv _ _ _=>L.length-(intOf kv).toNat)
 case atStart=>exact⟨0,Nat.zero_le _,rfl,World.ownsRow_nil _ _ _ _,Below.refl _ _⟩
 case round=>
  obtain⟨k,hk,rfl,hown,hB⟩:=hrel
  obtain⟨a,c,rfl,_⟩:=qC hown
  have hsr:=hB.size
  have hln:=zn.filter_take_le L k p
  have HOWN:=Lib.hid hown;have HB:=Lib.hid hB
  clear hown hB
  by_cases hlt:k<L.length
  ·obtain⟨c0,c1,c2,c3,c4⟩:=(HC.out wr HB.out).2.2.1 k hlt
   have hki:(k:Int)<(L.length:Int):=by omega
   obtain⟨K9,_,hx⟩:=qM wr _ L[k] rfl
   have HBA:=Lib.hid (HB.out.trans (K9.mono hsr))
   have YF:=Lib.hid (ownsRow_below HOWN.out K9)
   have hso:=HSZ.out k hlt
   have hnx:=zn.filter_next hlt p
   obtain⟨wa,hwa⟩:∃W,W=wr.alloc (.cells (recC L[k]).toArray 51):=⟨_,rfl⟩
   rw[← hwa]at HBA YF hx
   have hsa:=HBA.out.size
   have ltb:wr.heap.size<wa.heap.size:=by rw[hwa];simp
   clear K9
   obtain⟨x0,x1,x2,x3,x4⟩:=id hx
   by_cases ht:L[k].typ=t
   ·have bt:(L[k].typ == t)=true:=by rw[beq_iff_eq];exact ht
    cases he:qz L[k].owner n
    ·have hpk:p L[k]=false:=by rw[HP.out];simp[he]
     rw[hpk,if_neg (by simp)]at hnx
     have HT:=Lib.hid ht;have HE:=Lib.hid he;have HPK:=Lib.hid hpk;have HNX:=Lib.hid hnx;have HX:=Lib.hid hx;have HWA:=Lib.hid hwa
     clear ht he hpk hnx hx hwa
     go_wp2_with fail
     rw[← HWA.out]
     refine(zk _ _ hso hn _).mono ?_
     rintro e w2 ⟨rfl,hB2⟩
     rw[HE.out]
     have HB2:=Lib.hid (HBA.out.trans (hB2.mono HBA.out.size))
     have Uq:=Lib.hid (ownsRow_below YF.out hB2)
     clear hB2
     go_wp2_with fail
     go_roundw
     case rel=>exact⟨k+1,by omega,by go_num,by rw[HNX.out];exact Uq.out,HB2.out⟩
     case measure=>simp[intOf];omega
    ·have hpk:p L[k]=true:=by rw[HP.out];simp[he,ht]
     rw[hpk,if_pos rfl]at hnx
     have HT:=Lib.hid ht;have HE:=Lib.hid he;have HPK:=Lib.hid hpk;have HNX:=Lib.hid hnx;have HX:=Lib.hid hx;have HWA:=Lib.hid hwa
     clear ht he hpk hnx hx hwa
     clear c0 c1 c2 c3 c4
     obtain⟨c0,c1,c2,c3,c4⟩:=(HC.out wr HB.out).2.2.1 k hlt
     go_wp2_with fail
     rw[← HWA.out]
     refine(zk _ _ hso hn _).mono ?_
     rintro e w2 ⟨rfl,hB2⟩
     rw[HE.out]
     obtain⟨y0,y1,y2,y3,y4⟩:=HX.out.keep (hB2.block _ ltb)
     have HB2:=Lib.hid (HBA.out.trans (hB2.mono HBA.out.size))
     have Uq:=Lib.hid (ownsRow_below YF.out hB2)
     clear hB2 x0 x1 x2 x3 x4 c0 c1 c2 c3 c4
     obtain⟨F,hF⟩:∃F,F=(L.take k).filter p:=⟨_,rfl⟩
     rw[← hF]at Uq HNX hln ⊢
     have HF:=Lib.hid hF
     clear hF
     have yw:=Lib.hid (HB2.out.alloc HB2.out.size (.cells (recC L[k]).toArray 51))
     have zy:=Lib.hid (qi Uq.out fun b hb=>Below.heap_alloc w2 (.cells (recC L[k]).toArray 51) b (Uq.out.lt b hb).2)
     have yu:=Lib.hid (show F.length+1≤maxLen from by unfold maxLen;omega)
     have yt:=Lib.hid (show(F.length+1)*56≤140737488355328 from by omega)
     have zx:=Lib.hid (show w.heap.size≤(w2.alloc (.cells (recC L[k]).toArray 51)).heap.size from by have:=HB2.out.size;simp;omega)
     have qX:=Lib.hid (yA w2 (recC L[k]) 51)
     go_wp2_with (at_builtin;refine qF _ rfl _ _ 22 rfl w.heap.size 51 kX (.agg #[.string ⟨#[]⟩,.int .i64 0,.int .i64 0,.int .i64 0,.string ⟨#[]⟩]) 5 56 Tryz.underlying22 kZ.out kY.out yK.out yJ.out rfl (by decide) _ _ _ rfl zy.out ⟨w2.heap.size,0,none⟩ 1 1 (recC L[k]) rfl rfl qX.out (by simp[Value.oneCell']) yu.out yt.out zx.out ?_)
     intro v' w10 qI q9 zi
     have zw:=Lib.hid (yw.out.grown q9 zx.out (fun j hj=>(zy.out.lt j hj).1))
     have qQ:=Lib.hid qI;have vg:=Lib.hid q9;have jE:=Lib.hid zi
     clear qI q9 zi yw zy yu yt zx qX
     go_wp2_with fail
     go_roundw
     case rel=>
      refine⟨k+1,by omega,by go_num,?_,zw.out⟩
      have h:=qQ.out
      rw[HNX.out,List.length_append,zq]
      exact h
     case measure=>simp[intOf];omega
   ·have bt:(L[k].typ == t)=false:=by rw[beq_eq_false_iff_ne];exact ht
    have hpk:p L[k]=false:=by rw[HP.out];simp[ht]
    rw[hpk,if_neg (by simp)]at hnx
    have HT:=Lib.hid ht;have HPK:=Lib.hid hpk;have HNX:=Lib.hid hnx;have HX:=Lib.hid hx;have HWA:=Lib.hid hwa
    clear ht hpk hnx hx hwa
    go_wp2_with fail
    go_roundw
    case rel=>exact⟨k+1,by omega,by go_num,by rw[HNX.out,← HWA.out];exact YF.out,by rw[← HWA.out];exact HBA.out⟩
    case measure=>simp[intOf];omega
  ·obtain rfl:k=L.length:=by omega
   have hfin:(L.take L.length).filter p=zn.qD L (qm n,t):=by rw[List.take_length];exact Yt.out
   have JJ:=Lib.hid hfin
   clear hfin
   go_wp2_with fail
   go_ret
   exact⟨_,rfl,HB.out,by rw[← JJ.out];exact HOWN.out⟩
theorem Xx (z:Nat)(qf:ByteArray)(L:List Rec)(hL:L.length≤2000)(hnm:zn.jH L)(n:ByteArray)(hn:n.size≤1099511627776)(w:World)(hz:vO w z qf L):
 Calls Tryz.prog 79 #[.pointer (some ⟨z,0,none⟩),.string n] w fun e w'=>e= .returned (.bool (zn.yX L n))∧Below w.heap.size w w':=by
 obtain⟨g,cap,hzc,hrec⟩:=hz
 obtain⟨p,hp⟩:∃p:Rec→Bool,p=fun r=>!zn.zV r && qU r.owner n:=⟨_,rfl⟩
 have hres:zn.yX L n=L.any p:=by rw[hp];rfl
 have hsz:∀k (hk:k<L.length),L[k].owner.size≤1099511627776:=fun k hk=>by have:=qP (hnm _ (List.getElem_mem hk));omega
 have HC:=Lib.hid (fun W (hB:Below w.heap.size w W)=>jK hzc hrec hB)
 obtain⟨q0,q1,_,hcap⟩:=jK hzc hrec (Below.refl _ _)
 rw[hres]
 have HZC:=Lib.hid hzc;have Qv:=Lib.hid hrec;have HP:=Lib.hid hp;have HSZ:=Lib.hid hsz;have HNM:=Lib.hid hnm;have zb:=Lib.hid hres
 clear hzc hrec hp hsz hnm hres
 go_enter Tryz.func79,Tryz.ntmps79
 go_wp2_with fail
 clear q0 q1
 go_loopw [12,6] (fun kv _ wr=>∃k:Nat,k≤L.length∧kv= .int .i64 (k:Int)∧(L.take k).any p=false∧Below w.heap.size w wr) (fun kv _ _=>L.length-(intOf kv).toNat)
 case atStart=>exact⟨0,Nat.zero_le _,rfl,rfl,Below.refl _ _⟩
 case round=>
  obtain⟨k,hk,rfl,hno,hB⟩:=hrel
  have hsr:=hB.size
  have HB:=Lib.hid hB
  clear hB
  by_cases hlt:k<L.length
  ·obtain⟨c0,c1,c2,c3,c4⟩:=(HC.out wr HB.out).2.2.1 k hlt
   have hki:(k:Int)<(L.length:Int):=by omega
   obtain⟨K9,_,hx⟩:=qM wr _ L[k] rfl
   have HBA:=Lib.hid (HB.out.trans (K9.mono hsr))
   have hso:=HSZ.out k hlt
   have hnx:(L.take (k+1)).any p=p L[k]:=by rw[List.take_succ_eq_append_getElem hlt,List.any_append,hno];simp
   obtain⟨wa,hwa⟩:∃W,W=wr.alloc (.cells (recC L[k]).toArray 51):=⟨_,rfl⟩
   rw[← hwa]at HBA hx
   have hsa:=HBA.out.size
   have ltb:wr.heap.size<wa.heap.size:=by rw[hwa];simp
   clear K9
   obtain⟨x0,x1,x2,x3,x4⟩:=id hx
   cases hs:zn.zV L[k]
   ·cases hw:qU L[k].owner n
    ·have hpk:p L[k]=false:=by rw[HP.out];simp[hw]
     rw[hpk]at hnx
     have HS:=Lib.hid hs;have HW:=Lib.hid hw;have HPK:=Lib.hid hpk;have HNX:=Lib.hid hnx;have HX:=Lib.hid hx;have HWA:=Lib.hid hwa;have HNO:=Lib.hid hno
     clear hs hw hpk hnx hx hwa hno
     go_wp2_with fail
     rw[← HWA.out]
     refine(YV _ _).mono ?_
     rintro e w2 ⟨rfl,hB2⟩
     rw[HS.out]
     obtain⟨y0,y1,y2,y3,y4⟩:=HX.out.keep (hB2.block _ ltb)
     have HB2:=Lib.hid (HBA.out.trans (hB2.mono HBA.out.size))
     clear hB2 x0 x1 x2 x3 x4 c0 c1 c2 c3 c4
     go_wp2_with fail
     refine(jL _ _ hso hn _).mono ?_
     rintro e w3 ⟨rfl,hB3⟩
     rw[HW.out]
     have HB3:=Lib.hid (HB2.out.trans (hB3.mono HB2.out.size))
     clear hB3
     go_wp2_with fail
     go_roundw
     case rel=>exact⟨k+1,by omega,by go_num,HNX.out,HB3.out⟩
     case measure=>simp[intOf];omega
    ·have hpk:p L[k]=true:=by rw[HP.out];simp[hw,hs]
     have hany:L.any p=true:=by rw[List.any_eq_true];exact⟨_,List.getElem_mem hlt,hpk⟩
     have HS:=Lib.hid hs;have HW:=Lib.hid hw;have HPK:=Lib.hid hpk;have HNX:=Lib.hid hnx;have HX:=Lib.hid hx;have HWA:=Lib.hid hwa;have HNO:=Lib.hid hno;have HANY:=Lib.hid hany
     clear hs hw hpk hnx hx hwa hno hany
     go_wp2_with fail
     rw[← HWA.out]
     refine(YV _ _).mono ?_
     rintro e w2 ⟨rfl,hB2⟩
     rw[HS.out]
     obtain⟨y0,y1,y2,y3,y4⟩:=HX.out.keep (hB2.block _ ltb)
     have HB2:=Lib.hid (HBA.out.trans (hB2.mono HBA.out.size))
     clear hB2 x0 x1 x2 x3 x4 c0 c1 c2 c3 c4
     go_wp2_with fail
     refine(jL _ _ hso hn _).mono ?_
     rintro e w3 ⟨rfl,hB3⟩
     rw[HW.out]
     have HB3:=Lib.hid (HB2.out.trans (hB3.mono HB2.out.size))
     clear hB3
     go_wp2_with fail
     go_ret
     exact⟨qA HANY.out.symm,HB3.out⟩
   ·have hpk:p L[k]=false:=by rw[HP.out];simp[hs]
    rw[hpk]at hnx
    have HS:=Lib.hid hs;have HPK:=Lib.hid hpk;have HNX:=Lib.hid hnx;have HX:=Lib.hid hx;have HWA:=Lib.hid hwa;have HNO:=Lib.hid hno
    clear hs hpk hnx hx hwa hno
    go_wp2_with fail
    rw[← HWA.out]
    refine(YV _ _).mono ?_
    rintro e w2 ⟨rfl,hB2⟩
    rw[HS.out]
    have HB2:=Lib.hid (HBA.out.trans (hB2.mono HBA.out.size))
    clear hB2 x0 x1 x2 x3 x4 c0 c1 c2 c3 c4
    go_wp2_with fail
    go_roundw
    case rel=>exact⟨k+1,by omega,by go_num,HNX.out,HB2.out⟩
    case measure=>simp[intOf];omega
  ·obtain rfl:k=L.length:=by omega
   have hany:L.any p=false:=by rw[List.take_length]at hno;exact hno
   have HNO:=Lib.hid hno;have HANY:=Lib.hid hany
   clear hno hany
   go_wp2_with fail
   go_ret
   exact⟨qA HANY.out.symm,HB.out⟩
end Go.Proofs.YtdjjemajfphjaaaGreat
namespace Go.Proofs.YtdjjemajfphjaaaGreat
open Go.RowKit Go.Shelf nm od
namespace zn
end zn
end Go.Proofs.YtdjjemajfphjaaaGreat
namespace Go.Proofs.YtdjjemajfphjaaaGreat
open Go.RowKit Go.Shelf nm od
namespace zn
theorem soa_rec {qf:ByteArray}{L:List Rec}(hv:Valid qf L):∃r∈L,r.typ=6∧zV r=false∧qm r.owner=qm qf:=by
 obtain⟨_,h2,h3,_⟩:=Vs hv.rules
 have h4:∃r∈L,r.typ=6:=Classical.byContradiction fun h=>h3 (Jp.2 fun r hr h6=>h ⟨r,hr,h6⟩)
 obtain⟨r,hr,h6⟩:=h4
 refine⟨r,hr,h6,?_,(zJ (hv.named r hr) hv.ap).1 ((KD.1 h2).2 r hr h6)⟩
 unfold zV
 rw[h6]
 rfl
end zn
end Go.Proofs.YtdjjemajfphjaaaGreat
namespace Go.Proofs.YtdjjemajfphjaaaGreat
open Go.RowKit Go.Shelf nm od
end Go.Proofs.YtdjjemajfphjaaaGreat
namespace Go.Proofs.YtdjjemajfphjaaaGreat
open Go.RowKit Go.Shelf nm od
def Writ (w:World)(base:Nat)(v:Value)(n:Nat):Prop:=∃xs,w.ownsRow base 51 5 v n xs
theorem Writ.set {w:World}{base g n cap:Nat}(h:Writ w base (.slice (some ⟨g,0,none⟩) n cap) n)(j:Nat)(u:Value):Writ (w.setCell ⟨g,j,none⟩ u) base (.slice (some ⟨g,0,none⟩) n cap) n∧w.grownBy (w.setCell ⟨g,j,none⟩ u) (some g):=by
 obtain⟨xs,hx⟩:=h
 obtain⟨h1,h2⟩:=hx.stored j u
 exact⟨⟨_,h1⟩,h2⟩
theorem Writ.cells {w:World}{base g n cap:Nat}(h:Writ w base (.slice (some ⟨g,0,none⟩) n cap) n){j:Nat}(hj:j<n*5):∃u,w.cell? ⟨g,j,none⟩=some u∧w.frozen? ⟨g,j,none⟩=false:=by
 obtain⟨xs,hx⟩:=h
 have h1:=hx.cellAt j hj
 rw[List.getElem?_eq_getElem (by rw[hx.1];exact hj)]at h1
 exact⟨_,h1,hx.frozenAt j⟩
abbrev zG:Rec:=⟨⟨#[115,112,97,114,101]⟩,-77,-77,-77,⟨#[115,112,97,114,101]⟩⟩
theorem rec_size:(Tryz.prog.info? 51).map (·.size)=some 5:=by kernel_rfl
theorem rec_ret {fn:Func}{p:Tmp}(hf:fn.results= #[.cell p 51]){R:Ending→World→Prop}{a:Act}{w:World}{g:Nat}{v0 v1 v2 v3 v4:Value}(hp:a.tmps.getD p undef= .pointer (some ⟨g,0,none⟩))
 (hd:a.defers= []) (hg:w.heap[g]? =some (.cells #[v0,v1,v2,v3,v4] 51 (0,0))) (hR:R (.returned (.agg #[v0,v1,v2,v3,v4])) w):bodyPost Tryz.prog fn R .ret a w:=
 bodyPost_ret_by (results_cell_row hf _ w g _ _ _ _ hp hg Tryz.underlying51 rfl rec_size) hd hR
theorem ZA (w:World):Calls Tryz.prog 66 #[] w fun e w'=>e= .returned (zB zG)∧Below w.heap.size w w':=by
 go_enter Tryz.func66,Tryz.ntmps66
 go_wp2_with fail
 refine rec_ret rfl rfl rfl (qo rfl) ⟨rfl,(Below.refl _ w).alloc (Nat.le_refl _) _⟩
def RTwin (l:List Rec)(w:World)(e:Ending)(w':World):Prop:=∃g cap,e= .returned (.slice (some ⟨g,0,none⟩) l.length cap)∧Below w.heap.size w w'∧w'.ownsRow w.heap.size 51 5 (.slice (some ⟨g,0,none⟩) (l.length+2) cap) (l.length+2) (qG (l ++ [zG,zG]))∧l.length+2≤cap
theorem YT (l:List Rec):∀u∈qG l,u.oneCell'=true:=fun u hu=>by
 unfold qG at hu
 obtain⟨r,_,hr⟩:=List.mem_flatMap.1 hu
 simp only[List.mem_cons,List.not_mem_nil,or_false]at hr
 rcases hr with rfl | rfl | rfl | rfl | rfl <;> rfl
theorem Uz (base g cap:Nat)(l:List Rec)(hl:l.length≤1000000000000)(lv:Value)(w:World)(hown:w.ownsRow base 51 5 (.slice (some ⟨g,0,none⟩) (l.length+2) cap) (l.length+2) (qG (l ++ [zG,zG])))(hcap:l.length+2≤cap)(hlv:qy w lv l):
 Calls Tryz.prog 40 #[.slice (some ⟨g,0,none⟩) l.length cap,lv] w fun e w'=>e= .returned (.bool true)∧Below w.heap.size w w':=by
 obtain⟨a,c,rfl,hc,_⟩:=id hlv
 have hfull:qy w (.slice (some ⟨g,0,none⟩) (l.length+2) cap) (l ++ [zG,zG]):=qO (base:=base) (by rw[List.length_append];exact hown)
 have hown2:qy w (.slice (some ⟨g,0,none⟩) l.length cap) l:=by
  have:=YU (k:=l.length) hfull (by rw[List.length_append];omega)
  rw[List.take_left]at this
  exact this
 have e1:(l ++ [zG,zG])[l.length]'(by rw[List.length_append];simp)=zG:=by simp
 have e2:(l ++ [zG,zG])[l.length+1]'(by rw[List.length_append];simp)=zG:=by simp
 obtain⟨_,p0,p1,p2,p3,p4⟩:=zo hfull (j:=l.length) (by rw[List.length_append];simp)
 obtain⟨_,q0,q1,q2,q3,q4⟩:=zo hfull (j:=l.length+1) (by rw[List.length_append];simp)
 rw[e1]at p0 p1 p2 p3 p4
 rw[e2]at q0 q1 q2 q3 q4
 rw[Nat.zero_add]at p0 p1 p2 p3 p4 q0 q1 q2 q3 q4
 have g0:=qh p0
 have g1:=qh p1
 have g2:=qh p2
 have g3:=qh p3
 have g4:=qh p4
 have k0:=qh q0
 have k1:=qh q1
 have k2:=qh q2
 have k3:=qh q3
 have k4:=qh q4
 have CS:Hid (∀p,Calls Tryz.prog 14 #[.slice (some ⟨g,0,none⟩) l.length cap,.slice a l.length c] (gw w p) fun e w''=>e= .returned (.bool true)∧∃p',w''=gw w p'):=Lib.hid fun p=>qL (by
  have:=same_any l l hl _ _ (gw w p) (hown2.below (qp w p)) (hlv.below (qp w p))
  rw[decide_eq_true rfl]at this
  exact this)
 have CP:Hid (∀p,Calls Tryz.prog 66 #[] (gw w p) fun e w''=>e= .returned (zB zG)∧∃p',w''=gw w p'):=Lib.hid fun p=>qL (ZA _)
 have hcap':(l.length:Int)+2≤(cap:Int):=by omega
 have hw1:IntKind.i64.wrap ((l.length:Int)+1)=(l.length:Int)+1:=IntWalk.i64_in _ (by omega)
 have hw2:((l.length:Int)+2).toNat=l.length+2:=by omega
 have hb1:(0:Int)≤(l.length:Int):=by omega
 have hb2:(l.length:Int)<(l.length:Int)+2:=by omega
 have hb3:(0:Int)≤(l.length:Int)+1:=by omega
 have hb4:(l.length:Int)+1<(l.length:Int)+2:=by omega
 have hb5:((l.length:Int)+1).toNat=l.length+1:=by omega
 have HOWN:=Lib.hid hown;have HLV:=Lib.hid hlv;have HFULL:=Lib.hid hfull;have HOWN2:=Lib.hid hown2
 clear hown hlv hfull hown2
 clear e1 e2 p0 p1 p2 p3 p4 q0 q1 q2 q3 q4
 go_enter Tryz.func40,Tryz.ntmps40
 go_wp2_with fail
 refine qj (by kernel_rfl) (by kernel_rfl) ?_
 repeat (with_reducible refine wpQuiet_step (fun K hK=>?_);go_simp;(try simp only[undef]);first | (with_reducible refine hK _ ?_;clear hK K) | (apply Exists.intro;refine⟨fun _=>?_,hK _ ?_⟩;(first | (go_at_call 14;with_reducible exact CS.out _) | (go_at_call 66;with_reducible exact CP.out _));clear hK K) | (with_reducible refine⟨fun _ h=>(by cases h),?_⟩;with_reducible refine hK _ ?_;clear hK K))
 refine wpQuiet_nil ?_
 (try simp only[show Value.tuple #[]=undef from rfl])
 intro W hW
 have hBW:Below w.heap.size w W:=by obtain⟨g,rfl⟩:=hW;exact qp _ g
 clear hW
 go_wp2_with fail
 go_ret
 exact⟨rfl,hBW⟩
end Go.Proofs.YtdjjemajfphjaaaGreat
