import Derived.Test.YtpcmilhjpmlbpaaGreatDoorQTrT
set_option maxRecDepth 100000
set_option maxHeartbeats 4000000
namespace Go.Proofs.YtpcmilhjpmlbpaaGreatDoor
open Go.RowKit Go.Shelf Go.WideMaps nm od
theorem take_eq_nextQ {x y:List Qn}{k:Nat}(hx:k<x.length)(hy:k<y.length)(h:x.take k=y.take k)(e:x[k]=y[k]):x.take (k+1)=y.take (k+1):=by
 rw[List.take_succ_eq_append_getElem hx,List.take_succ_eq_append_getElem hy,h,e]
theorem equalR_any (x y:List Rec)(hx:x.length≤1000000000000)(v u:Value)(w:World)(hv:qm w v x)(hu:qm w u y):
 Calls Tryz.prog 136 #[v,u] w fun e w'=>e= .returned (.bool (decide (x=y)))∧Below w.heap.size w w':=by
 obtain⟨a,cap,rfl,-⟩:=id hv;obtain⟨a2,cap2,rfl,-⟩:=id hu;have HV:=qe hv;have HU:=qe hu;clear hv hu;by_cases hl:x.length=y.length
 ·obtain⟨m,hm⟩:∃m,m=y.length:=⟨_,rfl⟩;have HM:=qe hm;rw[hl,← hm]at hx ⊢;have HL:=qe (hl.trans hm.symm);clear hl hm
  go_enter Tryz.func136,Tryz.ntmps136
  go_wp2_with fail
  go_loopw [13,5] (fun kv _ wr=>∃k:Nat,k≤m∧kv= .int .i64 (k:Int)∧x.take k=y.take k∧Below w.heap.size w wr) (fun kv _ _=>m-(intOf kv).toNat)
  case atStart=>exact⟨0,Nat.zero_le _,rfl,rfl,Below.refl _ _⟩
  case round=>
   obtain⟨k,hk,rfl,hxy,hB⟩:=hrel;have HB:=qe hB;have HXY:=qe hxy;clear hxy;by_cases hkm:k<m
   ·obtain⟨a',cap',hv,_,hr⟩:=qm.below HV.out hB;simp only[Value.slice.injEq]at hv;obtain⟨rfl,_,rfl⟩:=hv;obtain⟨b,off,rfl,hbl,c0,c1,c2,c3,c4⟩:=hr k (by rw[HL.out];exact hkm);obtain⟨a',cap',hv,_,hr2⟩:=qm.below HU.out hB;simp only[Value.slice.injEq]at hv;obtain⟨rfl,_,rfl⟩:=hv;obtain⟨b2,off2,rfl,hbl2,d0,d1,d2,d3,d4⟩:=hr2 k (by rw[← HM.out];exact hkm);clear hr hr2 hB;go_upto_region 6 with fail;refine ql (by kernel_rfl) (by kernel_rfl) ?_;have e0:=qf c0;have e1:=qf c1;have e2:=qf c2;have e3:=qf c3;have e4:=qf c4;have f0:=qf d0;have f1:=qf d1;have f2:=qf d2;have f3:=qf d3;have f4:=qf d4
    repeat (with_reducible refine wpQuiet_step (fun K hK=>?_);go_simp;first | (with_reducible refine hK _ ?_;clear hK K))
    have hx2:k<x.length:=by rw[HL.out];exact hkm
    have hy2:k<y.length:=by rw[← HM.out];exact hkm
    with_reducible refine wpQuiet_step (fun K hK=>?_)
    go_simp
    refine⟨.bool (!decide (x[k]=y[k])),fun _=>?_,hK _ ?_⟩
    ·rw[rec_if];by_cases h:x[k]=y[k]
     ·rw[if_pos h,decide_eq_true h];exact⟨rfl,rfl⟩
     ·rw[if_neg h,decide_eq_false h];exact⟨rfl,rfl⟩
    clear hK K
    with_reducible refine wpQuiet_nil ?_
    intro W hW;have hBW:Below wr.heap.size wr W:=by obtain⟨p,rfl⟩:=hW;exact qB _ p
    have HBW:=qe (HB.out.trans (hBW.mono HB.out.size));clear hW hBW e0 e1 e2 e3 e4 f0 f1 f2 f3 f4 c0 c1 c2 c3 c4 d0 d1 d2 d3 d4;by_cases he:x[k]=y[k]
    ·rw[decide_eq_true he];have hnx:=K8 hx2 hy2 HXY.out he;have HNX:=qe hnx;clear hnx he;go_wp2_with fail
     go_roundw
     case rel=>exact⟨k+1,by omega,by go_num,HNX.out,HBW.out⟩
     case measure=>simp[intOf];omega
    ·rw[decide_eq_false he];have hno:decide (x=y)=false:=decide_eq_false fun h=>he (by subst h;rfl);have HNO:=qe hno;clear hno he;go_wp2_with fail;go_ret;exact⟨qH HNO.out.symm,HBW.out⟩
   ·obtain rfl:k=m:=by omega
    have hyes:decide (x=y)=true:=decide_eq_true (by
     have h:=HXY.out;rw[List.take_of_length_le (by rw[HL.out];exact Nat.le_refl _),List.take_of_length_le (by rw[← HM.out];exact Nat.le_refl _)]at h;exact h)
    have HY:=qe hyes;clear hyes hkm hB;go_wp2_with fail;go_ret;exact⟨qH HY.out.symm,HB.out⟩
 ·have hno:decide (x=y)=false:=decide_eq_false fun h=>hl (by rw[h]);have hl':((x.length:Int) != (y.length:Int))=true:=by rw[bne_iff_ne];omega
  have HNO:=qe hno;clear hno hl
  go_enter Tryz.func136,Tryz.ntmps136
  go_wp2_with fail;go_ret;exact⟨qH HNO.out.symm,Below.refl _ _⟩
theorem equalQ_any (x y:List Qn)(hx:x.length≤1000000000000)(v u:Value)(w:World)(hv:yu w v x)(hu:yu w u y):
 Calls Tryz.prog 89 #[v,u] w fun e w'=>e= .returned (.bool (decide (x=y)))∧Below w.heap.size w w':=by
 obtain⟨a,cap,rfl,-⟩:=id hv;obtain⟨a2,cap2,rfl,-⟩:=id hu;have HV:=qe hv;have HU:=qe hu;clear hv hu;by_cases hl:x.length=y.length
 ·obtain⟨m,hm⟩:∃m,m=y.length:=⟨_,rfl⟩;have HM:=qe hm;rw[hl,← hm]at hx ⊢;have HL:=qe (hl.trans hm.symm);clear hl hm
  go_enter Tryz.func89,Tryz.ntmps89
  go_wp2_with fail
  go_loopw [13,5] (fun kv _ wr=>∃k:Nat,k≤m∧kv= .int .i64 (k:Int)∧x.take k=y.take k∧Below w.heap.size w wr) (fun kv _ _=>m-(intOf kv).toNat)
  case atStart=>exact⟨0,Nat.zero_le _,rfl,rfl,Below.refl _ _⟩
  case round=>
   obtain⟨k,hk,rfl,hxy,hB⟩:=hrel;have HB:=qe hB;have HXY:=qe hxy;clear hxy;by_cases hkm:k<m
   ·obtain⟨a',cap',hv,_,hr⟩:=yu.below HV.out hB;simp only[Value.slice.injEq]at hv;obtain⟨rfl,_,rfl⟩:=hv;obtain⟨b,off,rfl,hbl,c0,c1,c2⟩:=hr k (by rw[HL.out];exact hkm);obtain⟨a',cap',hv,_,hr2⟩:=yu.below HU.out hB;simp only[Value.slice.injEq]at hv;obtain⟨rfl,_,rfl⟩:=hv;obtain⟨b2,off2,rfl,hbl2,d0,d1,d2⟩:=hr2 k (by rw[← HM.out];exact hkm);clear hr hr2 hB;go_upto_region 6 with fail;refine ql (by kernel_rfl) (by kernel_rfl) ?_;have e0:=qf c0;have e1:=qf c1;have e2:=qf c2;have f0:=qf d0;have f1:=qf d1;have f2:=qf d2
    repeat (with_reducible refine wpQuiet_step (fun K hK=>?_);go_simp;first | (with_reducible refine hK _ ?_;clear hK K))
    have hx2:k<x.length:=by rw[HL.out];exact hkm
    have hy2:k<y.length:=by rw[← HM.out];exact hkm
    with_reducible refine wpQuiet_step (fun K hK=>?_)
    go_simp
    refine⟨.bool (!decide (x[k]=y[k])),fun _=>?_,hK _ ?_⟩
    ·rw[qn_if];by_cases h:x[k]=y[k]
     ·rw[if_pos h,decide_eq_true h];exact⟨rfl,rfl⟩
     ·rw[if_neg h,decide_eq_false h];exact⟨rfl,rfl⟩
    clear hK K
    with_reducible refine wpQuiet_nil ?_
    intro W hW;have hBW:Below wr.heap.size wr W:=by obtain⟨p,rfl⟩:=hW;exact qB _ p
    have HBW:=qe (HB.out.trans (hBW.mono HB.out.size));clear hW hBW e0 e1 e2 f0 f1 f2 c0 c1 c2 d0 d1 d2;by_cases he:x[k]=y[k]
    ·rw[decide_eq_true he];have hnx:=take_eq_nextQ hx2 hy2 HXY.out he;have HNX:=qe hnx;clear hnx he;go_wp2_with fail
     go_roundw
     case rel=>exact⟨k+1,by omega,by go_num,HNX.out,HBW.out⟩
     case measure=>simp[intOf];omega
    ·rw[decide_eq_false he];have hno:decide (x=y)=false:=decide_eq_false fun h=>he (by subst h;rfl);have HNO:=qe hno;clear hno he;go_wp2_with fail;go_ret;exact⟨qH HNO.out.symm,HBW.out⟩
   ·obtain rfl:k=m:=by omega
    have hyes:decide (x=y)=true:=decide_eq_true (by
     have h:=HXY.out;rw[List.take_of_length_le (by rw[HL.out];exact Nat.le_refl _),List.take_of_length_le (by rw[← HM.out];exact Nat.le_refl _)]at h;exact h)
    have HY:=qe hyes;clear hyes hkm hB;go_wp2_with fail;go_ret;exact⟨qH HY.out.symm,HB.out⟩
 ·have hno:decide (x=y)=false:=decide_eq_false fun h=>hl (by rw[h]);have hl':((x.length:Int) != (y.length:Int))=true:=by rw[bne_iff_ne];omega
  have HNO:=qe hno;clear hno hl
  go_enter Tryz.func89,Tryz.ntmps89
  go_wp2_with fail;go_ret;exact⟨qH HNO.out.symm,Below.refl _ _⟩
end Go.Proofs.YtpcmilhjpmlbpaaGreatDoor
