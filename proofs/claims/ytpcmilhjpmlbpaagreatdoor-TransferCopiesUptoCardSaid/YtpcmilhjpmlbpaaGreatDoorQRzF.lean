import Derived.Test.YtpcmilhjpmlbpaaGreatDoorQRefB
import Derived.Test.YtpcmilhjpmlbpaaGreatDoorQRefF
import Derived.Test.YtpcmilhjpmlbpaaGreatDoorQRefY
import Derived.Test.YtpcmilhjpmlbpaaGreatDoorQZoneP
set_option maxRecDepth 100000
set_option maxHeartbeats 4000000
namespace Go.Proofs.YtpcmilhjpmlbpaaGreatDoor
open Go.RowKit Go.Shelf Go.WideMaps nm od
namespace zn
end zn
theorem recsC_apps (a b:List Rec):qx (a ++ b)=qx a ++ qx b:=by unfold qx;rw[List.flatMap_append]
end Go.Proofs.YtpcmilhjpmlbpaaGreatDoor
namespace Go.Proofs.YtpcmilhjpmlbpaaGreatDoor
open Go.RowKit Go.Shelf Go.WideMaps nm od
end Go.Proofs.YtpcmilhjpmlbpaaGreatDoor
namespace Go.Proofs.YtpcmilhjpmlbpaaGreatDoor
open Go.RowKit Go.Shelf Go.WideMaps nm od
namespace dt
theorem num_four (d:ByteArray):jr (.num 4) d=if d.size<4 then -1 else 4:=by
 show vU 4 d=_
 unfold vU
 by_cases h:d.size<4
 ·rw[if_pos h,if_pos (by omega)]
 ·rw[if_neg h,if_neg (by omega)]
theorem UG {f:Fld}{fs:List Fld}{d:ByteArray}{acc ps:List ByteArray}{r:ByteArray}(h:zm (f :: fs) d acc=some (ps,r)):
 0≤jr f d∧∃acc',zm fs (d.extract (jr f d).toNat d.size) acc'=some (ps,r):=by
 rw[zm]at h
 split at h
 ·cases h
 ·exact⟨by omega,_,h⟩
theorem splitF_le {f:Fld}{fs:List Fld}{d:ByteArray}{acc ps:List ByteArray}{r:ByteArray}(h:zm (f :: fs) d acc=some (ps,r)):
 ∃d' acc',d'.size≤d.size∧zm fs d' acc'=some (ps,r):=by
 obtain⟨h0,acc',h1⟩:=UG h
 exact⟨_,acc',by rw[ByteArray.size_extract];omega,h1⟩
theorem ji {fs:List Fld}{d:ByteArray}{acc ps:List ByteArray}{r:ByteArray}(h:zm (.num 4 :: fs) d acc=some (ps,r)):
 ∃d' acc',d'.size+4=d.size∧zm fs d' acc'=some (ps,r):=by
 obtain⟨h0,acc',h1⟩:=UG h
 rw[num_four]at h0 h1
 split at h0
 ·omega
 ·rename_i hs
  rw[if_neg hs]at h1
  exact⟨_,acc',by rw[ByteArray.size_extract];omega,h1⟩
theorem Qj {d:ByteArray}(h:yT 6 d=0):20≤d.size∧d.size≤65535:=by
 unfold yT at h
 split at h
 ·split at h
  ·cases h
  ·rename_i hs
   split at h
   ·rename_i hf
    refine⟨?_,by omega⟩
    unfold fits at hf
    have e:kD 6=some [.host,.host,.num 4,.num 4,.num 4,.num 4,.num 4]:=rfl
    rw[e]at hf
    simp only at hf
    split at hf
    ·rename_i ps r hsp
     obtain⟨d1,a1,s1,h1⟩:=splitF_le hsp
     obtain⟨d2,a2,s2,h2⟩:=splitF_le h1
     obtain⟨d3,a3,s3,h3⟩:=ji h2
     obtain⟨d4,a4,s4,h4⟩:=ji h3
     obtain⟨d5,a5,s5,h5⟩:=ji h4
     obtain⟨d6,a6,s6,h6⟩:=ji h5
     obtain⟨d7,a7,s7,h7⟩:=ji h6
     omega
    ·cases hf
   ·cases h
 ·cases h
end dt
namespace zn
def QM (d:ByteArray):Int:=(dt.jA (d.extract (d.size-20) (d.size-16)) 4:Nat)
end zn
theorem serial_any (top z:Nat)(qf:ByteArray)(L:List Rec)(r0:Rec)(rest:List Rec)(hrow:zn.qE L (qw qf,6)=r0 :: rest)(hd:20≤r0.data.size∧r0.data.size≤65535)(w:World)(hz:xS w top z qf L):
 Calls Tryz.prog 61 #[.pointer (some ⟨z,0,none⟩)] w fun e w'=>e= .returned (.int .i64 (zn.QM r0.data))∧Below w.heap.size w w':=by
 obtain⟨base,rg,cap0,sb,tb,l0,h1,h2,h3,h4,h5⟩:=hz.parts
 have z0:w.cell? ⟨z,0,none⟩=some (.string qf):=by rw[qg h2];rfl
 have z2:w.cell? ⟨z,2,none⟩=some (.map (some sb)):=by rw[qg h2];rfl
 obtain⟨v,hv,hown⟩:=Zc h4 (fun κ hκ=>VQ h1 hκ) (κ:=(qw qf,6)) ⟨ZR _,rfl⟩
 rw[hrow]at hown
 obtain⟨g,cap,rfl,hbg,hgl⟩:=hown.form (by simp)
 have hcell:w.cell? ⟨g,4,none⟩=some (.string r0.data):=by
  have:=hown.cells (g:=g) rfl 4 (.string r0.data) (by simp[qx])
  simpa[Addr.add] using this
 have hlen:(zn.qE L (qw qf,6)).length=(r0 :: rest).length:=by rw[hrow]
 obtain⟨n,hn⟩:∃n,n=(r0 :: rest).length:=⟨_,rfl⟩
 rw[← hn]at hv
 have hn1:0<n:=by rw[hn];simp
 have e0:=qh z0
 have e2:=qh z2
 have e4:=qh hcell
 have el:∀p,(Instr.lookup 114 (.map (some sb)) (Ve (qw qf,6)) false).run Tryz.prog (gw w p)= .ok (.slice (some ⟨g,0,none⟩) n cap) (gw w p):=fun p=>hv _ (qC w p)
 obtain⟨d,hdd⟩:∃d,d=r0.data:=⟨_,rfl⟩
 rw[← hdd]at hd e4 ⊢
 obtain⟨hd1,hd2⟩:=hd
 clear h1 h2 h3 h4 h5 hz hv hown hcell z0 z2 hrow hlen hn hbg hdd
 go_enter Tryz.func61,Tryz.ntmps61
 go_wp2_with fail
 refine ql (by kernel_rfl) (by kernel_rfl) ?_
 repeat (with_reducible refine wpQuiet_step (fun K hK=>?_);go_simp;first | (with_reducible refine hK _ ?_;clear hK K) | (apply Exists.intro;refine⟨fun _=>?_,hK _ ?_⟩;(first | (go_at_call 101;exact qU (jY _ _)));clear hK K))
 with_reducible refine wpQuiet_nil ?_
 intro W hW
 have hBW:Below w.heap.size w W:=by obtain⟨p,rfl⟩:=hW;exact qC _ p
 clear hW e0 e2 e4 el
 have hsw:=hBW.size
 obtain⟨x,hx⟩:∃x:ByteArray,x=d.extract (d.size-20) (d.size-16):=⟨_,rfl⟩
 have hxs:x.size=4:=by rw[hx,ByteArray.size_extract];omega
 obtain⟨w1,cap2,hcv,hsz,hB,hc⟩:=Y6 (P:=Tryz.prog) W 9 122 5 x Tryz.underlying9 Tryz.underlying122 Tryz.underlying5
 rw[hx]at hcv
 have hr:zn.QM d=(dt.jA x 4:Nat):=by unfold zn.QM;rw[← hx]
 rw[hxs]at hc
 have hxe:(d.extract (d.size-20) (d.size-16)).size=4:=by rw[← hx];exact hxs
 rw[hxe]at hcv
 have HR:=Lib.hid hr;have HB:=Lib.hid (hBW.trans (hB.mono hsw));have HC:=Lib.hid hc;have HXS:=Lib.hid hxs
 clear hr hB hc hBW hx hxs hxe
 go_wp2_with fail
 clear hcv hsz hsw hgl hn1
 go_loopw [31,4,6] (fun kv vv _ wr=>∃k:Nat,k≤4∧kv= .int .i64 (k:Int)∧vv= .int .i64 (dt.jA x k:Nat)∧wr=w1) (fun kv _ _ _=>4-(intOf kv).toNat)
 case atStart=>exact⟨0,by omega,rfl,rfl,rfl⟩
 case round=>
  obtain⟨k,hk,rfl,rfl,rfl⟩:=hrel
  by_cases hlt:k<4
  ·have c0:=(HC.out k hlt).1
   obtain⟨b,hb⟩:∃b,b=uk x k:=⟨_,rfl⟩
   have hv:dt.jA x k<256 ^ 4:=Nat.lt_of_lt_of_le (dt.JZ x k) (Nat.pow_le_pow_right (by omega) (by omega))
   have hv2:dt.jA x k<1099511627776:=Nat.lt_of_lt_of_le hv (by decide)
   have hv3:(dt.jA x k:Int)<1099511627776:=by omega
   rw[← hb]at c0
   have Vg:(b.toNat:Int)<256:=by have:=UInt8.toNat_lt b;omega
   have hor:=or_byte (dt.jA x k) b.toNat hv2 (UInt8.toNat_lt _)
   have hnx:(((dt.jA x k*256+b.toNat:Nat)):Int)=(dt.jA x (k+1):Nat):=by rw[hb];rfl
   rw[hnx]at hor
   have HOR:=Lib.hid hor
   have HV2:=Lib.hid hv2
   have hlt':(k:Int)<4:=by omega
   have HLT:=Lib.hid hlt
   clear hor hnx hv hb hv2 hk hlt
   go_wp2_with fail
   go_roundw
   case rel=>exact⟨k+1,by omega,by go_num,by rw[HOR.out],trivial⟩
   case measure=>simp[intOf];omega
  ·obtain rfl:k=4:=by omega
   go_wp2_with fail
   go_ret
   exact⟨by rw[HR.out];rfl,HB.out⟩
end Go.Proofs.YtpcmilhjpmlbpaaGreatDoor
namespace Go.Proofs.YtpcmilhjpmlbpaaGreatDoor
open Go.RowKit Go.Shelf Go.WideMaps nm od
theorem VX {α:Type}(r s:Rec)(A B:α):(if r.owner.toList=s.owner.toList then(if r.typ=s.typ then(if r.cls=s.cls then(if r.ttl=s.ttl then(if r.data.toList=s.data.toList then A else B) else B) else B) else B) else B)=if r=s then A else B:=by
 obtain⟨a1,a2,a3,a4,a5⟩:=r
 obtain⟨b1,b2,b3,b4,b5⟩:=s
 have e:∀a b:ByteArray,a.toList=b.toList↔a=b:=fun a b=>by rw[← str_eq,beq_iff_eq]
 simp only[e,Rec.mk.injEq]
 by_cases h1:a1=b1 <;> by_cases h2:a2=b2 <;> by_cases h3:a3=b3 <;> by_cases h4:a4=b4 <;> by_cases h5:a5=b5 <;> simp[h1,h2,h3,h4,h5]
theorem J6 {x y:List Rec}{k:Nat}(hx:k<x.length)(hy:k<y.length)(h:x.take k=y.take k)(e:x[k]=y[k]):x.take (k+1)=y.take (k+1):=by
 rw[List.take_succ_eq_append_getElem hx,List.take_succ_eq_append_getElem hy,h,e]
theorem Kc (x y:List Rec)(hx:x.length≤1000000000000)(v u:Value)(w:World)(hv:qz w v x)(hu:qz w u y):
 Calls Tryz.prog 22 #[v,u] w fun e w'=>e= .returned (.bool (decide (x=y)))∧Below w.heap.size w w':=by
 obtain⟨a,cap,rfl,-⟩:=id hv
 obtain⟨a2,cap2,rfl,-⟩:=id hu
 have HV:=Lib.hid hv;have HU:=Lib.hid hu
 clear hv hu
 by_cases hl:x.length=y.length
 ·obtain⟨m,hm⟩:∃m,m=y.length:=⟨_,rfl⟩
  have HM:=Lib.hid hm
  rw[hl,← hm]at hx ⊢
  have HL:=Lib.hid (hl.trans hm.symm)
  clear hl hm
  go_enter Tryz.func22,Tryz.ntmps22
  go_wp2_with fail
  go_loopw [13,5] (fun kv _ wr=>∃k:Nat,k≤m∧kv= .int .i64 (k:Int)∧x.take k=y.take k∧Below w.heap.size w wr) (fun kv _ _=>m-(intOf kv).toNat)
  case atStart=>exact⟨0,Nat.zero_le _,rfl,rfl,Below.refl _ _⟩
  case round=>
   obtain⟨k,hk,rfl,hxy,hB⟩:=hrel
   have HB:=Lib.hid hB;have HXY:=Lib.hid hxy
   clear hxy
   by_cases hkm:k<m
   ·obtain⟨a',cap',hv,_,hr⟩:=qz.below HV.out hB
    simp only[Value.slice.injEq]at hv
    obtain⟨rfl,_,rfl⟩:=hv
    obtain⟨b,off,rfl,hbl,c0,c1,c2,c3,c4⟩:=hr k (by rw[HL.out];exact hkm)
    obtain⟨a',cap',hv,_,hr2⟩:=qz.below HU.out hB
    simp only[Value.slice.injEq]at hv
    obtain⟨rfl,_,rfl⟩:=hv
    obtain⟨b2,off2,rfl,hbl2,d0,d1,d2,d3,d4⟩:=hr2 k (by rw[← HM.out];exact hkm)
    clear hr hr2 hB
    go_upto_region 6 with fail
    refine ql (by kernel_rfl) (by kernel_rfl) ?_
    have e0:=qh c0;have e1:=qh c1;have e2:=qh c2;have e3:=qh c3;have e4:=qh c4
    have f0:=qh d0;have f1:=qh d1;have f2:=qh d2;have f3:=qh d3;have f4:=qh d4
    repeat (with_reducible refine wpQuiet_step (fun K hK=>?_);go_simp;first | (with_reducible refine hK _ ?_;clear hK K))
    have hx2:k<x.length:=by rw[HL.out];exact hkm
    have hy2:k<y.length:=by rw[← HM.out];exact hkm
    with_reducible refine wpQuiet_step (fun K hK=>?_)
    go_simp
    refine⟨.bool (!decide (x[k]=y[k])),fun _=>?_,hK _ ?_⟩
    ·rw[VX]
     by_cases h:x[k]=y[k]
     ·rw[if_pos h,decide_eq_true h];exact⟨rfl,rfl⟩
     ·rw[if_neg h,decide_eq_false h];exact⟨rfl,rfl⟩
    clear hK K
    with_reducible refine wpQuiet_nil ?_
    intro W hW
    have hBW:Below wr.heap.size wr W:=by obtain⟨p,rfl⟩:=hW;exact qC _ p
    have HBW:=Lib.hid (HB.out.trans (hBW.mono HB.out.size))
    clear hW hBW e0 e1 e2 e3 e4 f0 f1 f2 f3 f4 c0 c1 c2 c3 c4 d0 d1 d2 d3 d4
    by_cases he:x[k]=y[k]
    ·rw[decide_eq_true he]
     have hnx:=J6 hx2 hy2 HXY.out he
     have HNX:=Lib.hid hnx
     clear hnx he
     go_wp2_with fail
     go_roundw
     case rel=>exact⟨k+1,by omega,by go_num,HNX.out,HBW.out⟩
     case measure=>simp[intOf];omega
    ·rw[decide_eq_false he]
     have hno:decide (x=y)=false:=decide_eq_false fun h=>he (by subst h;rfl)
     have HNO:=Lib.hid hno
     clear hno he
     go_wp2_with fail
     go_ret
     exact⟨qI HNO.out.symm,HBW.out⟩
   ·obtain rfl:k=m:=by omega
    have hyes:decide (x=y)=true:=decide_eq_true (by
     have h:=HXY.out
     rw[List.take_of_length_le (by rw[HL.out];exact Nat.le_refl _),List.take_of_length_le (by rw[← HM.out];exact Nat.le_refl _)]at h
     exact h)
    have HY:=Lib.hid hyes
    clear hyes hkm hB
    go_wp2_with fail
    go_ret
    exact⟨qI HY.out.symm,HB.out⟩
 ·have hno:decide (x=y)=false:=decide_eq_false fun h=>hl (by rw[h])
  have hl':((x.length:Int) != (y.length:Int))=true:=by rw[bne_iff_ne];omega
  have HNO:=Lib.hid hno
  clear hno hl
  go_enter Tryz.func22,Tryz.ntmps22
  go_wp2_with fail
  go_ret
  exact⟨qI HNO.out.symm,Below.refl _ _⟩
end Go.Proofs.YtpcmilhjpmlbpaaGreatDoor
namespace Go.Proofs.YtpcmilhjpmlbpaaGreatDoor
open Go.RowKit Go.Shelf Go.WideMaps nm od
namespace zn
end zn
theorem Kq {qf:ByteArray}{l:List Rec}{w w':World}{e:Ending}(h:kE qf l w e w')(hn:zn.yx qf l=none):
 Below w.heap.size w w'∧∃z L,w.heap.size≤z∧zI l L∧e= .returned (.tuple #[.pointer (some ⟨z,0,none⟩),.int .i64 0,.int .i64 0])∧jc w' w'.heap.size z qf L:=by
 unfold kE at h
 rw[hn]at h
 obtain⟨hB,z,L,hz,hs,he,hv⟩:=h
 have hva:=zn.Yi hn
 exact⟨hB,z,L,hz,hs,he,hv,by rw[hs.1.length_eq];exact hva.small,fun r hr=>(hva.each r (hs.1.mem_iff.1 hr)).1,hs.2⟩
theorem newPost_bad {qf:ByteArray}{l:List Rec}{w w':World}{e:Ending}{k c:Int}(h:kE qf l w e w')(hn:zn.yx qf l=some (k,c)):
 Below w.heap.size w w'∧e= .returned (.tuple #[.pointer none,.int .i64 k,.int .i64 c]):=by
 unfold kE at h
 rw[hn]at h
 exact h
theorem jc.z {w:World}{top z:Nat}{qf:ByteArray}{L:List Rec}(h:jc w top z qf L):xS w top z qf L:=h.v
end Go.Proofs.YtpcmilhjpmlbpaaGreatDoor
namespace Go.Proofs.YtpcmilhjpmlbpaaGreatDoor
open Go.RowKit Go.Shelf nm od
namespace zn
end zn
theorem xw {w w':World}{z:Nat}{qf:ByteArray}{L:List Rec}{g cap:Nat}(hz:w.heap[z]? =some (.cells #[.string qf,.slice (some ⟨g,0,none⟩) L.length cap] 58 (0,0)))(hr:qz w (.slice (some ⟨g,0,none⟩) L.length cap) L)(hB:Below w.heap.size w w'):
 w'.cell? ⟨z,0,none⟩=some (.string qf)∧w'.cell? ⟨z,1,none⟩=some (.slice (some ⟨g,0,none⟩) L.length cap)∧(∀k (hk:k<L.length),Z9 w' g (k*5) L[k])∧L.length≤cap:=by
 have h1:=(hB.block z (qo hz)).trans hz
 refine⟨by rw[qg h1];rfl,by rw[qg h1];rfl,fun k hk=>?_,?_⟩
 ·have:=(qN (hr.below hB) hk).2
  rw[Nat.zero_add]at this
  exact this
 ·obtain⟨a,c,hv,hc,_⟩:=hr
  simp only[Value.slice.injEq]at hv
  omega
end Go.Proofs.YtpcmilhjpmlbpaaGreatDoor
namespace Go.Proofs.YtpcmilhjpmlbpaaGreatDoor
open Go.RowKit Go.Shelf nm od
namespace zn
end zn
end Go.Proofs.YtpcmilhjpmlbpaaGreatDoor
namespace Go.Proofs.YtpcmilhjpmlbpaaGreatDoor
open Go.RowKit Go.Shelf nm od
namespace zn
theorem soa_rec {qf:ByteArray}{L:List Rec}(hv:Valid qf L):∃r∈L,r.typ=6∧xK r=false∧qw r.owner=qw qf:=by
 obtain⟨_,h2,h3,_⟩:=uH hv.rules
 have h4:∃r∈L,r.typ=6:=Classical.byContradiction fun h=>h3 (YW.2 fun r hr h6=>h ⟨r,hr,h6⟩)
 obtain⟨r,hr,h6⟩:=h4
 refine⟨r,hr,h6,?_,(zO (hv.named r hr) hv.ap).1 ((QL.1 h2).2 r hr h6)⟩
 unfold xK
 rw[h6]
 rfl
end zn
end Go.Proofs.YtpcmilhjpmlbpaaGreatDoor
namespace Go.Proofs.YtpcmilhjpmlbpaaGreatDoor
open Go.RowKit Go.Shelf nm od
end Go.Proofs.YtpcmilhjpmlbpaaGreatDoor
namespace Go.Proofs.YtpcmilhjpmlbpaaGreatDoor
open Go.RowKit Go.Shelf nm od
open dt (Fld)
namespace dt
abbrev soaF:List Fld:=[.host,.host,.num 4,.num 4,.num 4,.num 4,.num 4]
theorem ZF {f:Fld}{fs:List Fld}{d:ByteArray}{acc ps:List ByteArray}{r:ByteArray}(h:zm (f :: fs) d acc=some (ps,r)):
 0≤jr f d∧zm fs (d.extract (jr f d).toNat d.size) (acc ++ [d.extract 0 (jr f d).toNat])=some (ps,r):=by
 rw[zm]at h
 split at h
 ·cases h
 ·exact⟨by omega,h⟩
theorem splitF_pre:∀(fs:List Fld) (d:ByteArray) (acc ps:List ByteArray) (r:ByteArray),zm fs d acc=some (ps,r)→∃t,ps=acc ++ t:=by
 intro fs
 induction fs with
 | nil=>intro d acc ps r h;simp only[zm,Option.some.injEq,Prod.mk.injEq]at h;exact⟨[],by rw[← h.1];simp⟩
 | cons f fs ih=>
   intro d acc ps r h
   obtain⟨_,h2⟩:=ZF h
   obtain⟨t,ht⟩:=ih _ _ _ _ h2
   exact⟨[d.extract 0 (jr f d).toNat] ++ t,by rw[ht,List.append_assoc]⟩
theorem soa_parts {d:ByteArray}{ps:List ByteArray}{r:ByteArray}(h:zm soaF d []=some (ps,r))(hr:r.size=0):ps[2]? =some (d.extract (d.size-20) (d.size-16))∧20≤d.size:=by
 obtain⟨a0,h0⟩:=ZF h
 have l0:=Yk .host d
 generalize hn0:(jr .host d).toNat=n0 at h0
 obtain⟨a1,h1⟩:=ZF h0
 have l1:=Yk .host (d.extract n0 d.size)
 generalize hn1:(jr .host (d.extract n0 d.size)).toNat=n1 at h1
 have s1:(d.extract n0 d.size).size=d.size-n0:=by rw[ByteArray.size_extract];omega
 generalize hd2:(d.extract n0 d.size).extract n1 (d.extract n0 d.size).size=d2 at h1
 have s2:d2.size=d.size-n0-n1:=by rw[← hd2,ByteArray.size_extract];omega
 obtain⟨a2,h2⟩:=ZF h1
 rw[num_four]at a2 h2
 have f2:¬d2.size<4:=by split at a2 <;> omega
 rw[if_neg f2]at h2
 obtain⟨d4,_,s4,h4⟩:=ji h2
 obtain⟨d5,_,s5,h5⟩:=ji h4
 obtain⟨d6,_,s6,h6⟩:=ji h5
 obtain⟨d7,_,s7,h7⟩:=ji h6
 simp only[zm,Option.some.injEq,Prod.mk.injEq]at h7
 have e7:d7.size=0:=by rw[h7.2];exact hr
 have s3:(d2.extract (4:Int).toNat d2.size).size=d2.size-4:=by rw[ByteArray.size_extract];omega
 have hz:d2.size=20:=by omega
 obtain⟨t,ht⟩:=splitF_pre _ _ _ _ _ h2
 refine⟨?_,by omega⟩
 rw[ht]
 simp only[List.nil_append,List.cons_append,List.getElem?_cons_succ,List.getElem?_cons_zero,Option.some.injEq]
 apply ZU
 rw[← hd2,zP,zP,zP,zP]
 have hl:d.data.toList.length=d.size:=ba_len d
 have e1:List.take (d.size-n0) (List.drop n0 d.data.toList)=List.drop n0 d.data.toList:=List.take_of_length_le (by rw[List.length_drop,hl];omega)
 have e2:List.take ((d.extract n0 d.size).size-n1) (List.drop n1 (List.drop n0 d.data.toList))=List.drop n1 (List.drop n0 d.data.toList):=List.take_of_length_le (by rw[List.length_drop,List.length_drop,hl,s1];omega)
 rw[e1,e2,List.drop_zero,List.drop_drop]
 have h4':(4:Int).toNat=4:=rfl
 rw[h4',show d.size-16-(d.size-20)=4-0 by omega]
 congr 2
 omega
end dt
theorem rserial_any (z:Nat)(qf:ByteArray)(L:List Rec)(hva:zn.Valid qf L)(r0:Rec)(rest:List Rec)(hrow:zn.qE L (qw qf,6)=r0 :: rest)(w:World)(hz:QQ w z qf L):
 Calls Tryz.prog 57 #[.pointer (some ⟨z,0,none⟩)] w fun e w'=>e= .returned (.int .i64 (zn.QM r0.data))∧Below w.heap.size w w':=by
 have hL:=hva.small
 obtain⟨g,cap,hzc,hrec⟩:=hz
 have HC:=Lib.hid (fun W (hB:Below w.heap.size w W)=>xw hzc hrec hB)
 obtain⟨q0,q1,_,hcap⟩:=xw hzc hrec (Below.refl _ _)
 have hform:dt.kD 6=some dt.soaF:=rfl
 have hff:=dt.JE hform
 have HZC:=Lib.hid hzc;have HREC:=Lib.hid hrec;have HVA:=Lib.hid hva;have jB:=Lib.hid hrow;have HFORM:=Lib.hid hform;have HFF:=Lib.hid hff
 clear hzc hrec hva hrow hform hff
 go_enter Tryz.func57,Tryz.ntmps57
 go_wp2_with fail
 clear q0 q1
 go_loopw [12,4,5,6] (fun kv _ _ _ wr=>∃k:Nat,k≤L.length∧kv= .int .i64 (k:Int)∧(∀j (hj:j<L.length),j<k→L[j].typ≠6)∧Below w.heap.size w wr) (fun kv _ _ _ _=>L.length-(intOf kv).toNat)
 case atStart=>exact⟨0,Nat.zero_le _,rfl,(fun j hj h=>by omega),Below.refl _ _⟩
 case round=>
  obtain⟨k,hk,rfl,hno,hB⟩:=hrel
  have hsr:=hB.size
  have HB:=Lib.hid hB
  clear hB
  by_cases hlt:k<L.length
  ·obtain⟨c0,c1,c2,c3,c4⟩:=(HC.out wr HB.out).2.2.1 k hlt
   have hki:(k:Int)<(L.length:Int):=by omega
   obtain⟨hBA0,hza,hx⟩:=zw wr _ L[k] rfl
   have HBA:=Lib.hid (HB.out.trans (hBA0.mono hsr))
   obtain⟨wa,hwa⟩:∃W,W=wr.alloc (.cells (recC L[k]).toArray 80):=⟨_,rfl⟩
   rw[← hwa]at HBA hx hza
   have ltb:wr.heap.size<wa.heap.size:=by omega
   clear hBA0
   obtain⟨x0,x1,x2,x3,x4⟩:=id hx
   by_cases h6:L[k].typ=6
   ·have b6:(L[k].typ == 6)=true:=by rw[beq_iff_eq];exact h6
    have XF:dt.yT 6 L[k].data=0:=by
     have:=((HVA.out.each _ (List.getElem_mem hlt)).2.1)
     unfold zn.jq at this
     simp only[Bool.not_eq_false',Bool.and_eq_true,decide_eq_true_eq]at this
     rw[← h6]
     exact this.2
    obtain⟨hd,ps,r,hsp,hr0⟩:=chk_fit HFORM.out XF
    obtain⟨hp2,h20⟩:=dt.soa_parts hsp hr0
    have hr0e:r0=L[k]:=by
     have he:qw L[k].owner=qw qf:=(zn.zO (HVA.out.named _ (List.getElem_mem hlt)) HVA.out.ap).1 ((zn.QL.1 (zn.uH HVA.out.rules).2.1).2 _ (List.getElem_mem hlt) h6)
     have:=zn.rows_head (l:=L) (κ:=(qw qf,6)) hlt (by unfold zn.zV;rw[he,h6]) (fun i hi h e=>by
      unfold zn.zV at e
      simp only[Prod.mk.injEq]at e
      exact hno i hi h e.2) r0
     rw[jB.out]at this
     exact this
    have hpl:=(dt.ZE _ _ _ _ _ hsp).1
    have hpl2:ps.length=7:=by simpa using hpl
    have hgood:=dt.Zr HFORM.out
    have hparts:=fun W=>JB dt.soaF (by decide) hgood.1 L[k].data hd W
    have hall:∀X:World,Below wa.heap.size wa X→Below wa.heap.size wa X∧X.cell? ⟨wr.heap.size,4,none⟩=some (.string L[k].data):=fun X hX=>⟨hX,(hX.cell (p:=⟨wr.heap.size,4,none⟩) ltb).trans (by simpa using x4)⟩
    have hsz:(L[k].data.extract (L[k].data.size-20) (L[k].data.size-16)).size=4:=by rw[ByteArray.size_extract];omega
    have hval:zn.QM r0.data=(dt.jA (L[k].data.extract (L[k].data.size-20) (L[k].data.size-16)) (L[k].data.extract (L[k].data.size-20) (L[k].data.size-16)).size:Nat):=by rw[hsz,hr0e];rfl
    have h2p:2<ps.length:=by omega
    have hget:ps[2]=L[k].data.extract (L[k].data.size-20) (L[k].data.size-16):=by
     rw[List.getElem?_eq_getElem h2p]at hp2
     exact Option.some.inj hp2
    obtain⟨p2,hp2e⟩:∃p,p=ps[2]:=⟨_,rfl⟩
    rw[← hget,← hp2e]at hval hsz
    have H6:=Lib.hid h6;have HCHK:=Lib.hid XF;have HSP:=Lib.hid hsp;have HR0:=Lib.hid hr0;have HP2:=Lib.hid hp2;have HR0E:=Lib.hid hr0e;have HPARTS:=Lib.hid hparts;have zJ:=Lib.hid hall;have HVAL:=Lib.hid hval;have HGET:=Lib.hid hget;have HP2E:=Lib.hid hp2e;have HPL:=Lib.hid hpl;have HGOOD:=Lib.hid hgood;have HX:=Lib.hid hx;have HWA:=Lib.hid hwa;have HNO:=Lib.hid hno
    clear h6 XF hsp hr0 hp2 hr0e hparts hall hval hget hp2e hpl hgood hx hwa hno
    clear x0 x2 x3 x4 c0 c1 c2 c3 c4
    obtain⟨c0,c1,c2,c3,c4⟩:=(HC.out wr HB.out).2.2.1 k hlt
    go_upto_region 5 with fail
    rw[← HWA.out]
    go_cut [5] (fun s wx=>∃g cp,s= .slice (some ⟨g,0,none⟩) 7 cp∧7≤cp∧wx.cell? ⟨g,2,none⟩=some (.string p2)∧Below wa.heap.size wa wx)
    case first=>
     clear c0 c1 c2 c3 c4 x1
     go_region_held3 (fun X=>Below wa.heap.size wa X∧X.cell? ⟨wr.heap.size,4,none⟩=some (.string L[k].data))
      (first | assumption | exact zJ.out _ (Below.refl _ _).drew | (go_split_ands;exact zJ.out _ (by assumption)))
      (first
       | (go_at_call 99;(with_reducible refine(jG _ _).mono ?_);rintro e wF ⟨rfl,rfl⟩;rw[HFF.out])
       | (go_at_call 98;(with_reducible refine(HPARTS.out _).mono ?_);rintro e wA ⟨hpp,hbA⟩;rw[HSP.out]at hpp;obtain⟨vp,rfl,hop⟩:=hpp;go_split_ands;have JN:=Below.trans (B:=wa.heap.size) (a:=wa) (by assumption) (hbA.mono (Below.size (by assumption)))))
     all_goals
      obtain⟨gg,cp,rfl,_,_⟩:=hop.form (by omega)
      have hc2:=vZ hop 2 (by rw[List.length_map];omega)
      rw[List.getElem_map,← HP2E.out]at hc2
      obtain⟨_,_,hv',hcp⟩:=qm hop
      simp only[Value.slice.injEq,true_and]at hv'
      go_wp2_with fail
      go_meet
      exact⟨gg,cp,by rw[hpl2],by omega,hc2,JN⟩
    case rest=>
    obtain⟨g5,cp,rfl,hcp,hcell,hBc⟩:=hcut
    have HBC:=Lib.hid (HBA.out.trans (hBc.mono HBA.out.size))
    clear hBc c0 c1 c2 c3 c4 x1
    go_wp2_with fail
    refine(rvalue_any p2 (by omega) _).mono ?_
    rintro e w8 ⟨rfl,rfl⟩
    go_wp2_with fail
    go_ret
    exact⟨by rw[HVAL.out,hsz];rfl,HBC.out⟩
   ·have b6:(L[k].typ == 6)=false:=by rw[beq_eq_false_iff_ne];exact h6
    have yF:∀j (hj:j<L.length),j<k+1→L[j].typ≠6:=fun j hj h=>by
     rcases Nat.lt_or_ge j k with h' | h'
     ·exact hno j hj h'
     ·obtain rfl:j=k:=by omega
      exact h6
    have H6:=Lib.hid h6;have HNO:=Lib.hid hno;have kG:=Lib.hid yF;have HX:=Lib.hid hx;have HWA:=Lib.hid hwa
    clear h6 hno yF hx hwa
    go_wp2_with fail
    go_roundw
    case rel=>exact⟨k+1,by omega,by go_num,kG.out,by rw[← HWA.out];exact HBA.out⟩
    case measure=>simp[intOf];omega
  ·exfalso
   have hm:r0∈zn.qE L (qw qf,6):=by rw[jB.out];exact List.mem_cons_self ..
   obtain⟨h1,h2⟩:=zn.jI.1 hm
   obtain⟨j,hj,rfl⟩:=List.getElem_of_mem h1
   exact hno j hj (by omega) (congrArg Prod.snd h2)
end Go.Proofs.YtpcmilhjpmlbpaaGreatDoor
