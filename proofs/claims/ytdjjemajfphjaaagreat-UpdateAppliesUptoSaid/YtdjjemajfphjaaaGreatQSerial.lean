import Derived.Test.YtdjjemajfphjaaaGreatQRefB
import Derived.Test.YtdjjemajfphjaaaGreatQRefF
set_option maxRecDepth 100000
set_option maxHeartbeats 2000000
namespace Go.Proofs.YtdjjemajfphjaaaGreat
open Go.RowKit Go.Shelf Go.WideMaps nm od
namespace zn
end zn
theorem J4 (a b:List Rec):qG (a ++ b)=qG a ++ qG b:=by unfold qG;rw[List.flatMap_append]
end Go.Proofs.YtdjjemajfphjaaaGreat
namespace Go.Proofs.YtdjjemajfphjaaaGreat
open Go.RowKit Go.Shelf Go.WideMaps nm od
end Go.Proofs.YtdjjemajfphjaaaGreat
namespace Go.Proofs.YtdjjemajfphjaaaGreat
open Go.RowKit Go.Shelf Go.WideMaps nm od
namespace dt
theorem num_four (d:ByteArray):jW (.num 4) d=if d.size<4 then -1 else 4:=by
 show xA 4 d=_
 unfold xA
 by_cases h:d.size<4
 ·rw[if_pos h,if_pos (by omega)]
 ·rw[if_neg h,if_neg (by omega)]
theorem Vq {f:Fld}{fs:List Fld}{d:ByteArray}{acc ps:List ByteArray}{r:ByteArray}(h:zt (f :: fs) d acc=some (ps,r)):
 0≤jW f d∧∃acc',zt fs (d.extract (jW f d).toNat d.size) acc'=some (ps,r):=by
 rw[zt]at h
 split at h
 ·cases h
 ·exact⟨by omega,_,h⟩
theorem splitF_le {f:Fld}{fs:List Fld}{d:ByteArray}{acc ps:List ByteArray}{r:ByteArray}(h:zt (f :: fs) d acc=some (ps,r)):
 ∃d' acc',d'.size≤d.size∧zt fs d' acc'=some (ps,r):=by
 obtain⟨h0,acc',h1⟩:=Vq h
 exact⟨_,acc',by rw[ByteArray.size_extract];omega,h1⟩
theorem jJ {fs:List Fld}{d:ByteArray}{acc ps:List ByteArray}{r:ByteArray}(h:zt (.num 4 :: fs) d acc=some (ps,r)):
 ∃d' acc',d'.size+4=d.size∧zt fs d' acc'=some (ps,r):=by
 obtain⟨h0,acc',h1⟩:=Vq h
 rw[num_four]at h0 h1
 split at h0
 ·omega
 ·rename_i hs
  rw[if_neg hs]at h1
  exact⟨_,acc',by rw[ByteArray.size_extract];omega,h1⟩
theorem Xo {d:ByteArray}(h:yo 6 d=0):20≤d.size∧d.size≤65535:=by
 unfold yo at h
 split at h
 ·split at h
  ·cases h
  ·rename_i hs
   split at h
   ·rename_i hf
    refine⟨?_,by omega⟩
    unfold fits at hf
    have e:uq 6=some [.host,.host,.num 4,.num 4,.num 4,.num 4,.num 4]:=rfl
    rw[e]at hf
    simp only at hf
    split at hf
    ·rename_i ps r hsp
     obtain⟨d1,a1,s1,h1⟩:=splitF_le hsp
     obtain⟨d2,a2,s2,h2⟩:=splitF_le h1
     obtain⟨d3,a3,s3,h3⟩:=jJ h2
     obtain⟨d4,a4,s4,h4⟩:=jJ h3
     obtain⟨d5,a5,s5,h5⟩:=jJ h4
     obtain⟨d6,a6,s6,h6⟩:=jJ h5
     obtain⟨d7,a7,s7,h7⟩:=jJ h6
     omega
    ·cases hf
   ·cases h
 ·cases h
end dt
namespace zn
def xL (d:ByteArray):Int:=(dt.jP (d.extract (d.size-20) (d.size-16)) 4:Nat)
end zn
theorem JY (top z:Nat)(qf:ByteArray)(L:List Rec)(r0:Rec)(rest:List Rec)(hrow:zn.qD L (qm qf,6)=r0 :: rest)(hd:20≤r0.data.size∧r0.data.size≤65535)(w:World)(hz:QR w top z qf L):
 Calls Tryz.prog 22 #[.pointer (some ⟨z,0,none⟩)] w fun e w'=>e= .returned (.int .i64 (zn.xL r0.data))∧Below w.heap.size w w':=by
 obtain⟨base,rg,cap0,sb,tb,l0,h1,h2,h3,h4,h5⟩:=hz.parts
 have z0:w.cell? ⟨z,0,none⟩=some (.string qf):=by rw[qg h2];rfl
 have z2:w.cell? ⟨z,2,none⟩=some (.map (some sb)):=by rw[qg h2];rfl
 obtain⟨v,hv,hown⟩:=ZB h4 (fun κ hκ=>XA h1 hκ) (κ:=(qm qf,6)) ⟨Yn _,rfl⟩
 rw[hrow]at hown
 obtain⟨g,cap,rfl,hbg,hgl⟩:=hown.form (by simp)
 have hcell:w.cell? ⟨g,4,none⟩=some (.string r0.data):=by
  have:=hown.cells (g:=g) rfl 4 (.string r0.data) (by simp[qG])
  simpa[Addr.add] using this
 have hlen:(zn.qD L (qm qf,6)).length=(r0 :: rest).length:=by rw[hrow]
 obtain⟨n,hn⟩:∃n,n=(r0 :: rest).length:=⟨_,rfl⟩
 rw[← hn]at hv
 have hn1:0<n:=by rw[hn];simp
 have e0:=qh z0
 have e2:=qh z2
 have e4:=qh hcell
 have el:∀p,(Instr.lookup 91 (.map (some sb)) (xk (qm qf,6)) false).run Tryz.prog (gw w p)= .ok (.slice (some ⟨g,0,none⟩) n cap) (gw w p):=fun p=>hv _ (qp w p)
 obtain⟨d,hdd⟩:∃d,d=r0.data:=⟨_,rfl⟩
 rw[← hdd]at hd e4 ⊢
 obtain⟨hd1,hd2⟩:=hd
 clear h1 h2 h3 h4 h5 hz hv hown hcell z0 z2 hrow hlen hn hbg hdd
 go_enter Tryz.func22,Tryz.ntmps22
 go_wp2_with fail
 refine qj (by kernel_rfl) (by kernel_rfl) ?_
 repeat (with_reducible refine wpQuiet_step (fun K hK=>?_);go_simp;first | (with_reducible refine hK _ ?_;clear hK K) | (apply Exists.intro;refine⟨fun _=>?_,hK _ ?_⟩;(first | (go_at_call 65;exact qL (je _ _)));clear hK K))
 with_reducible refine wpQuiet_nil ?_
 intro W hW
 have hBW:Below w.heap.size w W:=by obtain⟨p,rfl⟩:=hW;exact qp _ p
 clear hW e0 e2 e4 el
 have hsw:=hBW.size
 obtain⟨x,hx⟩:∃x:ByteArray,x=d.extract (d.size-20) (d.size-16):=⟨_,rfl⟩
 have hxs:x.size=4:=by rw[hx,ByteArray.size_extract];omega
 obtain⟨w1,cap2,hcv,hsz,hB,hc⟩:=JE (P:=Tryz.prog) W 9 108 5 x Tryz.underlying9 Tryz.underlying108 Tryz.underlying5
 rw[hx]at hcv
 have hr:zn.xL d=(dt.jP x 4:Nat):=by unfold zn.xL;rw[← hx]
 rw[hxs]at hc
 have hxe:(d.extract (d.size-20) (d.size-16)).size=4:=by rw[← hx];exact hxs
 rw[hxe]at hcv
 have HR:=Lib.hid hr;have HB:=Lib.hid (hBW.trans (hB.mono hsw));have HC:=Lib.hid hc;have HXS:=Lib.hid hxs
 clear hr hB hc hBW hx hxs hxe
 go_wp2_with fail
 clear hcv hsz hsw hgl hn1
 go_loopw [31,4,6] (fun kv vv _ wr=>∃k:Nat,k≤4∧kv= .int .i64 (k:Int)∧vv= .int .i64 (dt.jP x k:Nat)∧wr=w1) (fun kv _ _ _=>4-(intOf kv).toNat)
 case atStart=>exact⟨0,by omega,rfl,rfl,rfl⟩
 case round=>
  obtain⟨k,hk,rfl,rfl,rfl⟩:=hrel
  by_cases hlt:k<4
  ·have c0:=(HC.out k hlt).1
   obtain⟨b,hb⟩:∃b,b=uV x k:=⟨_,rfl⟩
   have hv:dt.jP x k<256 ^ 4:=Nat.lt_of_lt_of_le (dt.Kq x k) (Nat.pow_le_pow_right (by omega) (by omega))
   have hv2:dt.jP x k<1099511627776:=Nat.lt_of_lt_of_le hv (by decide)
   have hv3:(dt.jP x k:Int)<1099511627776:=by omega
   rw[← hb]at c0
   have VO:(b.toNat:Int)<256:=by have:=UInt8.toNat_lt b;omega
   have hor:=or_byte (dt.jP x k) b.toNat hv2 (UInt8.toNat_lt _)
   have hnx:(((dt.jP x k*256+b.toNat:Nat)):Int)=(dt.jP x (k+1):Nat):=by rw[hb];rfl
   rw[hnx]at hor
   have HOR:=Lib.hid hor
   have HV2:=Lib.hid hv2
   have hlt':(k:Int)<4:=by omega
   have HLT:=Lib.hid hlt
   clear hor hnx hv hb hv2 hk hlt
   go_wp2_with fail
   go_roundw
   case rel=>exact⟨k+1,by omega,by go_num,by rw[HOR.out],trivial⟩
   case measure=>simp[intOf];omega
  ·obtain rfl:k=4:=by omega
   go_wp2_with fail
   go_ret
   exact⟨by rw[HR.out];rfl,HB.out⟩
theorem prefix_two (d:ByteArray):Lib.hasPrefix d.data.toList [0,50]=(decide (1<d.size) && ((d.extract 0 2).toList == [0,50])):=by
 have hl:d.data.toList.length=d.size:=by simp
 have e:(d.extract 0 2).toList=d.data.toList.take 2:=by
  rw[ByteArray.toList_eq,zM,List.drop_zero]
 rw[e]
 rcases hd:d.data.toList with _ | ⟨x,_ | ⟨y,l⟩⟩
 ·rw[hd]at hl
  rw[decide_eq_false (by simp at hl;omega)]
  rfl
 ·rw[hd]at hl
  rw[decide_eq_false (by simp at hl;omega)]
  show(0 == x && false)=false
  rw[Bool.and_false]
 ·rw[hd]at hl
  rw[decide_eq_true (by simp at hl;omega)]
  show(0 == x && (50 == y && true))=(true && (x == 0 && (y == 50 && true)))
  rw[Bool.true_and,Bool.and_true,Bool.and_true,BEq.comm (a:=x),BEq.comm (a:=y)]
theorem YV (r:Rec)(w:World):Calls Tryz.prog 140 #[zB r] w fun e w'=>e= .returned (.bool (!zn.zV r))∧Below w.heap.size w w':=by
 have hB:=Lib.hid ((Below.refl _ w).alloc (Nat.le_refl _) (.cells (recC r).toArray 51))
 by_cases h5:r.typ=50
 ·have b1:(r.typ == 50)=true:=by rw[beq_iff_eq];exact h5
  have b2:(r.typ != 50)=false:=by rw[bne_eq_false_iff_eq];exact h5
  have hr:(!zn.zV r)=false:=by unfold zn.zV;rw[decide_eq_true h5,Bool.true_or];rfl
  have HR:=Lib.hid hr
  clear hr h5
  go_enter Tryz.func140,Tryz.ntmps140
  go_wp2_with fail
  go_ret
  exact⟨qA HR.out.symm,hB.out⟩
 ·have b1:(r.typ == 50)=false:=by rw[beq_eq_false_iff_ne];exact h5
  have b2:(r.typ != 50)=true:=by rw[bne_iff_ne];exact h5
  by_cases h6:r.typ=46
  ·have b3:(r.typ == 46)=true:=by rw[beq_iff_eq];exact h6
   have hr:zn.zV r=(decide (1<r.data.size) && ((r.data.extract 0 2).toList == [0,50])):=by
    unfold zn.zV
    rw[decide_eq_false h5,Bool.false_or,decide_eq_true h6,Bool.true_and,prefix_two]
   have HR:=Lib.hid hr
   clear hr h5 h6
   by_cases h1:1<r.data.size
   ·have h1':(1:Int)<(r.data.size:Int):=by omega
    have h2':(2:Int)≤(r.data.size:Int):=by omega
    cases hx:((r.data.extract 0 2).toList == [0,50])
    ·have hr:(!zn.zV r)=true:=by rw[HR.out,hx,Bool.and_false];rfl
     have HR2:=Lib.hid hr
     clear hr
     go_enter Tryz.func140,Tryz.ntmps140
     go_wp2_with fail
     go_ret
     exact⟨qA HR2.out.symm,hB.out⟩
    ·have hr:(!zn.zV r)=false:=by rw[HR.out,hx,decide_eq_true h1];rfl
     have HR2:=Lib.hid hr
     clear hr
     go_enter Tryz.func140,Tryz.ntmps140
     go_wp2_with fail
     go_ret
     exact⟨qA HR2.out.symm,hB.out⟩
   ·have h1':(r.data.size:Int)≤1:=by omega
    have hr:(!zn.zV r)=true:=by rw[HR.out,decide_eq_false h1,Bool.false_and];rfl
    have HR2:=Lib.hid hr
    clear hr h1
    go_enter Tryz.func140,Tryz.ntmps140
    go_wp2_with fail
    go_ret
    exact⟨qA HR2.out.symm,hB.out⟩
  ·have b3:(r.typ == 46)=false:=by rw[beq_eq_false_iff_ne];exact h6
   have hr:(!zn.zV r)=true:=by unfold zn.zV;rw[decide_eq_false h5,Bool.false_or,decide_eq_false h6,Bool.false_and];rfl
   have HR:=Lib.hid hr
   clear hr h5 h6
   go_enter Tryz.func140,Tryz.ntmps140
   go_wp2_with fail
   go_ret
   exact⟨qA HR.out.symm,hB.out⟩
end Go.Proofs.YtdjjemajfphjaaaGreat
namespace Go.Proofs.YtdjjemajfphjaaaGreat
open Go.RowKit Go.Shelf Go.WideMaps nm od
theorem rec_if {α:Type}(r s:Rec)(A B:α):(if r.owner.toList=s.owner.toList then(if r.typ=s.typ then(if r.cls=s.cls then(if r.ttl=s.ttl then(if r.data.toList=s.data.toList then A else B) else B) else B) else B) else B)=if r=s then A else B:=by
 obtain⟨a1,a2,a3,a4,a5⟩:=r
 obtain⟨b1,b2,b3,b4,b5⟩:=s
 have e:∀a b:ByteArray,a.toList=b.toList↔a=b:=fun a b=>by rw[← str_eq,beq_iff_eq]
 simp only[e,Rec.mk.injEq]
 by_cases h1:a1=b1 <;> by_cases h2:a2=b2 <;> by_cases h3:a3=b3 <;> by_cases h4:a4=b4 <;> by_cases h5:a5=b5 <;> simp[h1,h2,h3,h4,h5]
theorem take_eq_next {x y:List Rec}{k:Nat}(hx:k<x.length)(hy:k<y.length)(h:x.take k=y.take k)(e:x[k]=y[k]):x.take (k+1)=y.take (k+1):=by
 rw[List.take_succ_eq_append_getElem hx,List.take_succ_eq_append_getElem hy,h,e]
theorem same_any (x y:List Rec)(hx:x.length≤1000000000000)(v u:Value)(w:World)(hv:qy w v x)(hu:qy w u y):
 Calls Tryz.prog 14 #[v,u] w fun e w'=>e= .returned (.bool (decide (x=y)))∧Below w.heap.size w w':=by
 obtain⟨a,cap,rfl,-⟩:=id hv
 obtain⟨a2,cap2,rfl,-⟩:=id hu
 have HV:=Lib.hid hv;have HU:=Lib.hid hu
 clear hv hu
 by_cases hl:x.length=y.length
 ·obtain⟨m,hm⟩:∃m,m=y.length:=⟨_,rfl⟩
  have HM:=Lib.hid hm
  rw[hl,← hm]at hx ⊢
  have HL:=Lib.hid (hl.trans hm.symm)
  clear hl hm
  go_enter Tryz.func14,Tryz.ntmps14
  go_wp2_with fail
  go_loopw [13,5] (fun kv _ wr=>∃k:Nat,k≤m∧kv= .int .i64 (k:Int)∧x.take k=y.take k∧Below w.heap.size w wr) (fun kv _ _=>m-(intOf kv).toNat)
  case atStart=>exact⟨0,Nat.zero_le _,rfl,rfl,Below.refl _ _⟩
  case round=>
   obtain⟨k,hk,rfl,hxy,hB⟩:=hrel
   have HB:=Lib.hid hB;have HXY:=Lib.hid hxy
   clear hxy
   by_cases hkm:k<m
   ·obtain⟨a',cap',hv,_,hr⟩:=qy.below HV.out hB
    simp only[Value.slice.injEq]at hv
    obtain⟨rfl,_,rfl⟩:=hv
    obtain⟨b,off,rfl,hbl,c0,c1,c2,c3,c4⟩:=hr k (by rw[HL.out];exact hkm)
    obtain⟨a',cap',hv,_,hr2⟩:=qy.below HU.out hB
    simp only[Value.slice.injEq]at hv
    obtain⟨rfl,_,rfl⟩:=hv
    obtain⟨b2,off2,rfl,hbl2,d0,d1,d2,d3,d4⟩:=hr2 k (by rw[← HM.out];exact hkm)
    clear hr hr2 hB
    go_upto_region 6 with fail
    refine qj (by kernel_rfl) (by kernel_rfl) ?_
    have e0:=qh c0;have e1:=qh c1;have e2:=qh c2;have e3:=qh c3;have e4:=qh c4
    have f0:=qh d0;have f1:=qh d1;have f2:=qh d2;have f3:=qh d3;have f4:=qh d4
    repeat (with_reducible refine wpQuiet_step (fun K hK=>?_);go_simp;first | (with_reducible refine hK _ ?_;clear hK K))
    have hx2:k<x.length:=by rw[HL.out];exact hkm
    have hy2:k<y.length:=by rw[← HM.out];exact hkm
    with_reducible refine wpQuiet_step (fun K hK=>?_)
    go_simp
    refine⟨.bool (!decide (x[k]=y[k])),fun _=>?_,hK _ ?_⟩
    ·rw[rec_if]
     by_cases h:x[k]=y[k]
     ·rw[if_pos h,decide_eq_true h];exact⟨rfl,rfl⟩
     ·rw[if_neg h,decide_eq_false h];exact⟨rfl,rfl⟩
    clear hK K
    with_reducible refine wpQuiet_nil ?_
    intro W hW
    have hBW:Below wr.heap.size wr W:=by obtain⟨p,rfl⟩:=hW;exact qp _ p
    have HBW:=Lib.hid (HB.out.trans (hBW.mono HB.out.size))
    clear hW hBW e0 e1 e2 e3 e4 f0 f1 f2 f3 f4 c0 c1 c2 c3 c4 d0 d1 d2 d3 d4
    by_cases he:x[k]=y[k]
    ·rw[decide_eq_true he]
     have hnx:=take_eq_next hx2 hy2 HXY.out he
     have HNX:=Lib.hid hnx
     clear hnx he
     go_wp2_with fail
     go_roundw
     case rel=>exact⟨k+1,by omega,by go_num,HNX.out,HBW.out⟩
     case measure=>simp[intOf];omega
    ·rw[decide_eq_false he]
     have hno:decide (x=y)=false:=decide_eq_false fun h=>he (by subst h;rfl)
     have HNO:=Lib.hid hno
     clear hno he
     go_wp2_with fail
     go_ret
     exact⟨qA HNO.out.symm,HBW.out⟩
   ·obtain rfl:k=m:=by omega
    have hyes:decide (x=y)=true:=decide_eq_true (by
     have h:=HXY.out
     rw[List.take_of_length_le (by rw[HL.out];exact Nat.le_refl _),List.take_of_length_le (by rw[← HM.out];exact Nat.le_refl _)]at h
     exact h)
    have HY:=Lib.hid hyes
    clear hyes hkm hB
    go_wp2_with fail
    go_ret
    exact⟨qA HY.out.symm,HB.out⟩
 ·have hno:decide (x=y)=false:=decide_eq_false fun h=>hl (by rw[h])
  have hl':((x.length:Int) != (y.length:Int))=true:=by rw[bne_iff_ne];omega
  have HNO:=Lib.hid hno
  clear hno hl
  go_enter Tryz.func14,Tryz.ntmps14
  go_wp2_with fail
  go_ret
  exact⟨qA HNO.out.symm,Below.refl _ _⟩
end Go.Proofs.YtdjjemajfphjaaaGreat
namespace Go.Proofs.YtdjjemajfphjaaaGreat
open Go.RowKit Go.Shelf Go.WideMaps nm od
namespace zn
end zn
theorem KR {qf:ByteArray}{l:List Rec}{w w':World}{e:Ending}(h:kT qf l w e w')(hn:zn.yY qf l=none):
 Below w.heap.size w w'∧∃z L,w.heap.size≤z∧zQ l L∧e= .returned (.tuple #[.pointer (some ⟨z,0,none⟩),.int .i64 0,.int .i64 0])∧xu w' w'.heap.size z qf L:=by
 unfold kT at h
 rw[hn]at h
 obtain⟨hB,z,L,hz,hs,he,hv⟩:=h
 have hva:=zn.QC hn
 exact⟨hB,z,L,hz,hs,he,hv,by rw[hs.1.length_eq];exact hva.small,fun r hr=>(hva.each r (hs.1.mem_iff.1 hr)).1,hs.2⟩
theorem newPost_bad {qf:ByteArray}{l:List Rec}{w w':World}{e:Ending}{k c:Int}(h:kT qf l w e w')(hn:zn.yY qf l=some (k,c)):
 Below w.heap.size w w'∧e= .returned (.tuple #[.pointer none,.int .i64 k,.int .i64 c]):=by
 unfold kT at h
 rw[hn]at h
 exact h
theorem xu.z {w:World}{top z:Nat}{qf:ByteArray}{L:List Rec}(h:xu w top z qf L):QR w top z qf L:=h.v
end Go.Proofs.YtdjjemajfphjaaaGreat
