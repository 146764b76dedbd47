import Derived.Test.YtpcmilhjpmlbpaaGreatDoorQTrT
set_option maxRecDepth 100000
set_option maxHeartbeats 4000000
namespace Go.Proofs.YtpcmilhjpmlbpaaGreatDoor
open Go.RowKit Go.Shelf Go.WideMaps nm od
theorem take_eq_nextQ {x y:List Qn}{k:Nat}(hx:k<x.length)(hy:k<y.length)(h:x.take k=y.take k)(e:x[k]=y[k]):x.take (k+1)=y.take (k+1):=by
 rw[gV hx,gV hy,h,e]
theorem equalR_any (x y:List Rec)(hx:x.length<=1000000000000)(v u:Value)(w:World)(hv:ql w v x)(hu:ql w u y):
 Calls Tryz.prog 136 #[v,u] w λe w'=>e= .returned (.bool (decide (x=y)))/\Below w.heap.size w w':=by
 obtain⟨a,cap,rfl,-⟩:=id hv;obtain⟨a2,cap2,rfl,-⟩:=id hu;have HV:=qe hv;have HU:=qe hu;clear hv hu;by_cases hl:x.length=y.length
 ·obtain⟨m,hm⟩:=yM y.length;have HM:=qe hm;rw[hl,<- hm]at hx ⊢;have HL:=qe (hl.trans hm.symm);clear hl hm
  go_enter Tryz.func136,Tryz.ntmps136
  go_wp2_with fail
  go_loopw [13,5] (λkv _ wr=>∃k:Nat,k<=m/\kv= .int .i64 (k:Int)/\x.take k=y.take k/\Below w.heap.size w wr) (λkv _ _=>m-(intOf kv).toNat)
  case atStart=>exact⟨0,gU _,rfl,rfl,gJ _ _⟩
  case round=>
   obtain⟨k,hk,rfl,hxy,hB⟩:=hrel;have HB:=qe hB;have HXY:=qe hxy;clear hxy;by_cases hkm:k<m
   ·obtain⟨a',cap',hv,_,hr⟩:=ql.below HV.out hB;simp only[gL]at hv;obtain⟨rfl,_,rfl⟩:=hv;obtain⟨b,off,rfl,hbl,c0,c1,c2,c3,c4⟩:=hr k (by rw[HL.out];exact hkm);obtain⟨a',cap',hv,_,hr2⟩:=ql.below HU.out hB;simp only[gL]at hv;obtain⟨rfl,_,rfl⟩:=hv;obtain⟨b2,off2,rfl,hbl2,d0,d1,d2,d3,d4⟩:=hr2 k (by rw[<- HM.out];exact hkm);clear hr hr2 hB;go_upto_region 6 with fail;refine qp (by kernel_rfl) (by kernel_rfl) ?_;have e0:=qh c0;have e1:=qh c1;have e2:=qh c2;have e3:=qh c3;have e4:=qh c4;have f0:=qh d0;have f1:=qh d1;have f2:=qh d2;have f3:=qh d3;have f4:=qh d4
    repeat (with_reducible refine Hu (λK hK=>?_);go_simp;first | (with_reducible refine hK _ ?_;clear hK K))
    have hx2:k<x.length:=by rw[HL.out];exact hkm
    have hy2:k<y.length:=by rw[<- HM.out];exact hkm
    with_reducible refine Hu (λK hK=>?_)
    go_simp
    refine⟨.bool (!decide (x[k]=y[k])),λ_=>?_,hK _ ?_⟩
    ·rw[Jm];by_cases h:x[k]=y[k]
     ·rw[if_pos h,gF h];exact⟨rfl,rfl⟩
     ·rw[if_neg h,gp h];exact⟨rfl,rfl⟩
    clear hK K
    with_reducible refine Hw ?_
    intro W hW;have hBW:Below wr.heap.size wr W:=by obtain⟨p,rfl⟩:=hW;exact qD _ p
    have HBW:=qe (gm HB.out hBW);clear hW hBW e0 e1 e2 e3 e4 f0 f1 f2 f3 f4 c0 c1 c2 c3 c4 d0 d1 d2 d3 d4;by_cases he:x[k]=y[k]
    ·rw[gF he];have hnx:=Ur hx2 hy2 HXY.out he;have HNX:=qe hnx;clear hnx he;go_wp2_with fail
     go_roundw
     case rel=>exact⟨k+1,by omega,by go_num,HNX.out,HBW.out⟩
     case measure=>simp[intOf];omega
    ·rw[gp he];have hno:decide (x=y)=false:=gp λh=>he (by subst h;rfl);have HNO:=qe hno;clear hno he;go_wp2_with fail;go_ret;exact⟨qI HNO.out.symm,HBW.out⟩
   ·obtain rfl:k=m:=by omega
    have hyes:decide (x=y)=true:=gF (by
     have h:=HXY.out;rw[List.take_of_length_le (by rw[HL.out];exact gI _),List.take_of_length_le (by rw[<- HM.out];exact gI _)]at h;exact h)
    have HY:=qe hyes;clear hyes hkm hB;go_wp2_with fail;go_ret;exact⟨qI HY.out.symm,HB.out⟩
 ·have hno:decide (x=y)=false:=gp λh=>hl (by rw[h]);have hl':((x.length:Int) != (y.length:Int))=true:=by rw[bne_iff_ne];omega
  have HNO:=qe hno;clear hno hl
  go_enter Tryz.func136,Tryz.ntmps136
  go_wp2_with fail;go_ret;exact⟨qI HNO.out.symm,gJ _ _⟩
theorem equalQ_any (x y:List Qn)(hx:x.length<=1000000000000)(v u:Value)(w:World)(hv:yw w v x)(hu:yw w u y):
 Calls Tryz.prog 89 #[v,u] w λe w'=>e= .returned (.bool (decide (x=y)))/\Below w.heap.size w w':=by
 obtain⟨a,cap,rfl,-⟩:=id hv;obtain⟨a2,cap2,rfl,-⟩:=id hu;have HV:=qe hv;have HU:=qe hu;clear hv hu;by_cases hl:x.length=y.length
 ·obtain⟨m,hm⟩:=yM y.length;have HM:=qe hm;rw[hl,<- hm]at hx ⊢;have HL:=qe (hl.trans hm.symm);clear hl hm
  go_enter Tryz.func89,Tryz.ntmps89
  go_wp2_with fail
  go_loopw [13,5] (λkv _ wr=>∃k:Nat,k<=m/\kv= .int .i64 (k:Int)/\x.take k=y.take k/\Below w.heap.size w wr) (λkv _ _=>m-(intOf kv).toNat)
  case atStart=>exact⟨0,gU _,rfl,rfl,gJ _ _⟩
  case round=>
   obtain⟨k,hk,rfl,hxy,hB⟩:=hrel;have HB:=qe hB;have HXY:=qe hxy;clear hxy;by_cases hkm:k<m
   ·obtain⟨a',cap',hv,_,hr⟩:=yw.below HV.out hB;simp only[gL]at hv;obtain⟨rfl,_,rfl⟩:=hv;obtain⟨b,off,rfl,hbl,c0,c1,c2⟩:=hr k (by rw[HL.out];exact hkm);obtain⟨a',cap',hv,_,hr2⟩:=yw.below HU.out hB;simp only[gL]at hv;obtain⟨rfl,_,rfl⟩:=hv;obtain⟨b2,off2,rfl,hbl2,d0,d1,d2⟩:=hr2 k (by rw[<- HM.out];exact hkm);clear hr hr2 hB;go_upto_region 6 with fail;refine qp (by kernel_rfl) (by kernel_rfl) ?_;have e0:=qh c0;have e1:=qh c1;have e2:=qh c2;have f0:=qh d0;have f1:=qh d1;have f2:=qh d2
    repeat (with_reducible refine Hu (λK hK=>?_);go_simp;first | (with_reducible refine hK _ ?_;clear hK K))
    have hx2:k<x.length:=by rw[HL.out];exact hkm
    have hy2:k<y.length:=by rw[<- HM.out];exact hkm
    with_reducible refine Hu (λK hK=>?_)
    go_simp
    refine⟨.bool (!decide (x[k]=y[k])),λ_=>?_,hK _ ?_⟩
    ·rw[qn_if];by_cases h:x[k]=y[k]
     ·rw[if_pos h,gF h];exact⟨rfl,rfl⟩
     ·rw[if_neg h,gp h];exact⟨rfl,rfl⟩
    clear hK K
    with_reducible refine Hw ?_
    intro W hW;have hBW:Below wr.heap.size wr W:=by obtain⟨p,rfl⟩:=hW;exact qD _ p
    have HBW:=qe (gm HB.out hBW);clear hW hBW e0 e1 e2 f0 f1 f2 c0 c1 c2 d0 d1 d2;by_cases he:x[k]=y[k]
    ·rw[gF he];have hnx:=take_eq_nextQ hx2 hy2 HXY.out he;have HNX:=qe hnx;clear hnx he;go_wp2_with fail
     go_roundw
     case rel=>exact⟨k+1,by omega,by go_num,HNX.out,HBW.out⟩
     case measure=>simp[intOf];omega
    ·rw[gp he];have hno:decide (x=y)=false:=gp λh=>he (by subst h;rfl);have HNO:=qe hno;clear hno he;go_wp2_with fail;go_ret;exact⟨qI HNO.out.symm,HBW.out⟩
   ·obtain rfl:k=m:=by omega
    have hyes:decide (x=y)=true:=gF (by
     have h:=HXY.out;rw[List.take_of_length_le (by rw[HL.out];exact gI _),List.take_of_length_le (by rw[<- HM.out];exact gI _)]at h;exact h)
    have HY:=qe hyes;clear hyes hkm hB;go_wp2_with fail;go_ret;exact⟨qI HY.out.symm,HB.out⟩
 ·have hno:decide (x=y)=false:=gp λh=>hl (by rw[h]);have hl':((x.length:Int) != (y.length:Int))=true:=by rw[bne_iff_ne];omega
  have HNO:=qe hno;clear hno hl
  go_enter Tryz.func89,Tryz.ntmps89
  go_wp2_with fail;go_ret;exact⟨qI HNO.out.symm,gJ _ _⟩
end Go.Proofs.YtpcmilhjpmlbpaaGreatDoor
