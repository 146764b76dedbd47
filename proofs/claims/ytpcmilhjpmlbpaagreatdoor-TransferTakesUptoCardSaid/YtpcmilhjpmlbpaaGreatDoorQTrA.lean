import Derived.Test.YtpcmilhjpmlbpaaGreatDoorQTrP
import Derived.Deep.RegionLaw
import Derived.Deep.CutBlock
set_option maxRecDepth 100000
set_option maxHeartbeats 2000000
namespace Go.Proofs.YtpcmilhjpmlbpaaGreatDoor
open Go.RowKit Go.Shelf nm
theorem Xw {P:Program}{ops:Array Oper}{o:Oper}{a:Act}{w:World}{K:Act->World->Prop}{Q:Exit->Act->World->Prop}{E:Prop}
 (hg:o.guard=none) (s x:Operand) (t:TypeId) (hop:o.op=Op.call { callee:=Callee.builtin Builtin.append,args:=#[s,x],argTypes:=#[t,t]})
 (base:Nat) (e:TypeId) (i:TypeInfo) (z:Value) (size bytes:Nat) (ht:P.underlying t=some (.slice e)) (hi:P.info? e=some i) (hz:i.zero=some z)
 (hsize:i.size=size) (hby:i.bytes=bytes) (hzs:z.cells.size=size) (hsz:0<size)
 (v:Value) (n:Nat) (xs:List Value) (hs:a.eval s=v) (hown:w.ownsRow base e size v n xs)
 (ad:Addr) (m c:Nat) (news:List Value) (hx:a.eval x= .slice (some ad) m c) (hl:news.length=m*size) (hnews:∀j u,news[j]? =some u->w.cell? (ad.add j)=some u) (h1:∀u∈news,u.oneCell'=true)
 (h63:n+m<=maxLen) (hbytes:(n+m)*bytes<=140737488355328) (hbase:base<=w.heap.size)
 (hK:∀v' w',w'.ownsRow base e size v' (n+m) (xs ++ news)->w.grownBy w' v.ownBlock->(∀b,v'.ownBlock=some b->v.ownBlock=some b\/w.heap.size<=b)->K (a.put o.dst v') w'):
 if Region.wanted o (yielded ops a.tmps)=true then Oper.wp P o a w K Q else E:=by
 have hw:Region.wanted o (yielded ops a.tmps)=true:=by simp[Region.wanted,hg]
 rw[if_pos hw];obtain⟨v',w',hr,h2,h3,_⟩:=run_append_own (P:=P) w base t o.type e i z size bytes ht hi hz hsize hby hzs hsz v n xs hown ad m c news hl hnews h1 h63 hbytes hbase;have h4:=QU w base t o.type e i z size bytes ht hi hz hsize hby v n xs hown ad m c news hl hnews h1 h63 hbytes hr;unfold Oper.wp;simp[execOp,hop,resolve,invoke,builtin,hs,hx,hr,Result.andThen];exact hK v' w' h2 h3 h4
open od
theorem VE (a b:Int)(w:World):Calls Tryz.prog 8 #[.int .i64 a,.int .i64 b] w λe w'=>e= .returned (.bool (tr.zU a b))/\w'=w:=by
 by_cases h1:min a b<0
 ·have hf:tr.zU a b=false:=by unfold tr.zU;rw[Bool.and_eq_false_iff];left;exact gp (by omega)
  rw[hf];clear hf
  go_enter Tryz.func8,Tryz.ntmps8
  go_wp2_with fail;go_ret;exact⟨rfl,rfl⟩
 ·by_cases h2:max a b > 4294967295
  ·have hf:tr.zU a b=false:=by unfold tr.zU;rw[Bool.and_eq_false_iff];left;exact gp (by omega)
   rw[hf];clear hf
   go_enter Tryz.func8,Tryz.ntmps8
   go_wp2_with fail;go_ret;exact⟨rfl,rfl⟩
  ·have ha:IntKind.u32.wrap a=a:=by rw[IntKind.wrap_u32];omega
   have hb:IntKind.u32.wrap b=b:=by rw[IntKind.wrap_u32];omega
   obtain⟨d,hdd⟩:=yM ((a-b) % 4294967296);have hd:IntKind.u32.wrap (a-b)=d:=by rw[IntKind.wrap_u32,hdd]
   have hv:tr.zU a b=(decide (1<=d) && decide (d<=2147483647)):=by
    unfold tr.zU up.zU;rw[gF (by omega),Bool.true_and,<- hdd,Bool.decide_and]
   rw[hv];clear hdd hv;by_cases k1:1<=d
   ·by_cases k2:d<=2147483647
    ·have e1:decide (1<=d)=true:=gF k1;have e2:decide (d<=2147483647)=true:=gF k2;rw[e1,e2]
     go_enter Tryz.func8,Tryz.ntmps8
     go_wp2_with fail;go_ret;exact⟨rfl,rfl⟩
    ·have e1:decide (1<=d)=true:=gF k1;have e2:decide (d<=2147483647)=false:=gp k2;rw[e1,e2]
     go_enter Tryz.func8,Tryz.ntmps8
     go_wp2_with fail;go_ret;exact⟨rfl,rfl⟩
   ·have e1:decide (1<=d)=false:=gp k1;rw[e1]
    go_enter Tryz.func8,Tryz.ntmps8
    go_wp2_with fail;go_ret;exact⟨rfl,rfl⟩
theorem rnewer_any (a b:Int)(w:World):Calls Tryz.prog 9 #[.int .i64 a,.int .i64 b] w λe w'=>e= .returned (.bool (tr.zU a b))/\w'=w:=by
 by_cases h1:0<=a/\0<=b/\a<=4294967295/\b<=4294967295
 ·obtain⟨p1,p2,p3,p4⟩:=h1;have w1:IntKind.i64.wrap (a-b)=a-b:=Hg _ (by omega);have w2:IntKind.i64.wrap (a-b+4294967296)=a-b+4294967296:=Hg _ (by omega);obtain⟨d,hdd⟩:=yM ((a-b) % 4294967296);have hd:(a-b+4294967296).tmod 4294967296=d:=by rw[Int.tmod_eq_emod_of_nonneg (by omega),hdd];omega
  have hw:IntKind.i64.wrap d=d:=Hg _ (by omega);have hv:tr.zU a b=(decide (1<=d) && decide (d<=2147483647)):=by
   unfold tr.zU up.zU;rw[gF ⟨p1,p2,p3,p4⟩,Bool.true_and,<- hdd,Bool.decide_and]
  rw[hv];clear hdd hv;have a1:decide (a<0)=false:=gp (by omega);have a2:decide (b<0)=false:=gp (by omega);have a3:decide (4294967295<a)=false:=gp (by omega);have a4:decide (4294967295<b)=false:=gp (by omega);by_cases k1:1<=d
  ·have e1:decide (1<=d)=true:=gF k1;by_cases k2:d<=2147483647
   ·have e2:decide (d<=2147483647)=true:=gF k2;rw[e1,e2]
    go_enter Tryz.func9,Tryz.ntmps9
    go_wp2_with fail;go_ret;exact⟨rfl,rfl⟩
   ·have e2:decide (d<=2147483647)=false:=gp k2;rw[e1,e2]
    go_enter Tryz.func9,Tryz.ntmps9
    go_wp2_with fail;go_ret;exact⟨rfl,rfl⟩
  ·have e1:decide (1<=d)=false:=gp k1;rw[e1]
   go_enter Tryz.func9,Tryz.ntmps9
   go_wp2_with fail;go_ret;exact⟨rfl,rfl⟩
 ·have hf:tr.zU a b=false:=by unfold tr.zU;rw[gp h1];rfl
  rw[hf];clear hf;by_cases a1:a<0
  ·have e1:decide (a<0)=true:=gF a1;clear h1 a1
   go_enter Tryz.func9,Tryz.ntmps9
   go_wp2_with fail;go_ret;exact⟨rfl,rfl⟩
  ·have e1:decide (a<0)=false:=gp a1;by_cases a2:b<0
   ·have e2:decide (b<0)=true:=gF a2;clear h1 a1 a2
    go_enter Tryz.func9,Tryz.ntmps9
    go_wp2_with fail;go_ret;exact⟨rfl,rfl⟩
   ·have e2:decide (b<0)=false:=gp a2;by_cases a3:4294967295<a
    ·have e3:decide (4294967295<a)=true:=gF a3;clear h1 a1 a2 a3
     go_enter Tryz.func9,Tryz.ntmps9
     go_wp2_with fail;go_ret;exact⟨rfl,rfl⟩
    ·have e3:decide (4294967295<a)=false:=gp a3;have e4:decide (4294967295<b)=true:=gF (by omega);clear h1 a1 a2 a3
     go_enter Tryz.func9,Tryz.ntmps9
     go_wp2_with fail;go_ret;exact⟨rfl,rfl⟩
theorem VZ (r:Rec)(hd1:20<=r.data.size)(hd2:r.data.size<=1099511627776)(w:World):
 Calls Tryz.prog 68 #[yf r] w λe w'=>e= .returned (.int .i64 (up.QQ r.data))/\Below w.heap.size w w':=by
 obtain⟨wa,hwa⟩:=yM (w.alloc (.cells (recC r).toArray 80));obtain⟨hBa,hsa,hxa⟩:=zf w wa r hwa;obtain⟨bx,hbx⟩:=yM w.heap.size;rw[<- hbx]at hxa;obtain⟨x0,x1,x2,x3,x4⟩:=id hxa;obtain⟨d,hdd⟩:=yM r.data;rw[<- hdd]at hd1 hd2 x4 ⊢;obtain⟨x,hx⟩:=yM (d.extract (d.size-20) (d.size-16):ByteArray);have hxs:x.size=4:=by rw[hx,Hq];omega
 obtain⟨w1,cap2,hcv,hsz,hB,hc⟩:=Kc (P:=Tryz.prog) wa 9 122 5 x Tryz.underlying9 Tryz.underlying122 Tryz.underlying5;rw[hx]at hcv;have hr:up.QQ d=(dt.jO x 4:Nat):=by unfold up.QQ;rw[<- hx,hxs]
 rw[hxs]at hc;have hxe:(d.extract (d.size-20) (d.size-16)).size=4:=by rw[<- hx];exact hxs
 rw[hxe]at hcv;have HR:=qe hr;have HB:=qe (gm hBa hB);have HC:=qe hc;have HXS:=qe hxs;have HWA:=qe hwa;have HBX:=qe hbx;clear hr hB hc hx hxs hxe hsz hwa hBa hsa hbx hxa hdd
 go_enter Tryz.func68,Tryz.ntmps68
 go_upto_region 1 with fail;rw[<- HWA.out,<- HBX.out];go_wp2_with fail;clear hcv hd1 hd2 x0 x1 x2 x3 x4
 go_loopw [19,3,5] (λkv vv _ wr=>∃k:Nat,k<=4/\kv= .int .i64 (k:Int)/\vv= .int .i64 (dt.jO x k:Nat)/\wr=w1) (λkv _ _ _=>4-(intOf kv).toNat)
 case atStart=>exact⟨0,by omega,rfl,rfl,rfl⟩
 case round=>
  obtain⟨k,hk,rfl,rfl,rfl⟩:=hrel;by_cases hlt:k<4
  ·have c0:=(HC.out k hlt).1;obtain⟨b,hb⟩:=yM (uR x k);have hv:dt.jO x k<256 ^ 4:=gN (dt.Um x k) (Nat.pow_le_pow_right (by omega) (by omega));have hv2:dt.jO x k<1099511627776:=gN hv (by decide);have hv3:(dt.jO x k:Int)<1099511627776:=by omega
   rw[<- hb]at c0;have Xz:(b.toNat:Int)<256:=by have:=UInt8.toNat_lt b;omega
   have hor:=or_byte (dt.jO x k) b.toNat hv2 (UInt8.toNat_lt _);have hnx:(((dt.jO x k*256+b.toNat:Nat)):Int)=(dt.jO x (k+1):Nat):=by rw[hb];rfl
   rw[hnx]at hor;have HOR:=qe hor;have HV2:=qe hv2;have hlt':(k:Int)<4:=by omega
   have HLT:=qe hlt;clear hor hnx hv hb hv2 hk hlt;go_wp2_with fail
   go_roundw
   case rel=>exact⟨k+1,by omega,by go_num,by rw[HOR.out],trivial⟩
   case measure=>simp[intOf];omega
  ·obtain rfl:k=4:=by omega
   go_wp2_with fail;go_ret;exact⟨by rw[HR.out];rfl,HB.out⟩
theorem rserial7_any (r:Rec)(hd1:20<=r.data.size)(hd2:r.data.size<=1099511627776)(w:World):
 Calls Tryz.prog 56 #[yf r] w λe w'=>e= .returned (.int .i64 (up.QQ r.data))/\Below w.heap.size w w':=by
 obtain⟨wa,hwa⟩:=yM (w.alloc (.cells (recC r).toArray 80));obtain⟨hBa,hsa,hxa⟩:=zf w wa r hwa;obtain⟨bx,hbx⟩:=yM w.heap.size;rw[<- hbx]at hxa;obtain⟨x0,x1,x2,x3,x4⟩:=id hxa;obtain⟨d,hdd⟩:=yM r.data;rw[<- hdd]at hd1 hd2 x4 ⊢;obtain⟨x,hx⟩:=yM (d.extract (d.size-20) (d.size-16):ByteArray);have hxs:x.size=4:=by rw[hx,Hq];omega
 have HV:=qe (show Calls Tryz.prog 97 #[.string (d.extract (d.size-20) (d.size-16))] wa λe w'=>e= .returned (.int .i64 (up.QQ d))/\wa=w' by
  have h:=X7 x (by omega) wa;have hr:up.QQ d=(dt.jO x x.size:Nat):=by unfold up.QQ;rw[<- hx]
  rw[hr,<- hx];exact h)
 have HB:=qe hBa;have HWA:=qe hwa;have HBX:=qe hbx;clear hx hxs hwa hBa hsa hbx hxa hdd
 go_enter Tryz.func56,Tryz.ntmps56
 go_upto_region 1 with fail;rw[<- HWA.out,<- HBX.out];go_wp2_with fail;refine HV.out.mono ?_;rintro e w2 ⟨rfl,rfl⟩;go_wp2_with fail;go_ret;exact⟨rfl,HB.out⟩
end Go.Proofs.YtpcmilhjpmlbpaaGreatDoor
