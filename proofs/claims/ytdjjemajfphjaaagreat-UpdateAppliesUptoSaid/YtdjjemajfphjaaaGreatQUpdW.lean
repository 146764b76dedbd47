import Derived.Test.YtdjjemajfphjaaaGreatQRCon
import Derived.Test.YtdjjemajfphjaaaGreatQWirB
import Derived.Test.YtdjjemajfphjaaaGreatQUpdE
import Derived.Test.YtdjjemajfphjaaaGreatQUpdU
import Derived.Test.YtdjjemajfphjaaaGreatQUpdG
import Derived.Test.YtdjjemajfphjaaaGreatQSerial
import Derived.Deep.CutBlock
import Derived.Deep.RegionHeld3
set_option maxRecDepth 100000
set_option maxHeartbeats 4000000
namespace Go.Proofs.YtdjjemajfphjaaaGreat
open Go.RowKit Go.Shelf nm od
namespace up
def xe (qs:List Qn):Bool:=match qs with
 | [q]=>decide (q.typ=6) && decide (q.cls=1)
 | _=>false
def authB (qf:ByteArray)(qs:List Qn):Bool:=match qs with
 | [q]=>qz q.name qf
 | _=>false
def xn (h:Hd)(qs:List Qn)(an au ad:List Rec):Bool:=!h.UU && wi.jI h qs an au ad && decide (h.op=5)
def zN (qf:ByteArray)(L:List Rec)(h:Hd)(qs:List Qn)(an au ad:List Rec):Int:=
 if xn h qs an au ad=false then 1
 else if xe qs=false then 1
 else if authB qf qs=false then 9
 else if yM qf L an≠0 then yM qf L an
 else jl (yc qf) au
section
variable {qf:ByteArray}{L:List Rec}{h:Hd}{qs:List Qn}{an au ad:List Rec}
theorem Uf (h1:xn h qs an au ad=false):zN qf L h qs an au ad=1:=by unfold zN;rw[if_pos h1]
theorem chk_b (h2:xe qs=false):zN qf L h qs an au ad=1:=by
 unfold zN
 split
 ·rfl
 ·first | rw[if_pos h2] | rfl
theorem chk_c (h1:xn h qs an au ad=true)(h2:xe qs=true)(h3:authB qf qs=false):zN qf L h qs an au ad=9:=by
 unfold zN;rw[if_neg (by rw[h1];simp),if_neg (by rw[h2];simp),if_pos h3]
theorem chk_d (h1:xn h qs an au ad=true)(h2:xe qs=true)(h3:authB qf qs=true):zN qf L h qs an au ad=if yM qf L an≠0 then yM qf L an else jl (yc qf) au:=by
 unfold zN;rw[if_neg (by rw[h1];simp),if_neg (by rw[h2];simp),if_neg (by rw[h3];simp)]
theorem xC (h1:xn h qs an au ad=true):h.UU=false∧wi.jI h qs an au ad=true∧h.op=5:=by
 unfold xn at h1
 simp only[Bool.and_eq_true,Bool.not_eq_true',decide_eq_true_eq]at h1
 exact⟨h1.1.1,h1.1.2,h1.2⟩
theorem U0 (h1:wi.jI h qs an au ad=true):(∀x∈an,ql x.owner=true)∧∀x∈au,ql x.owner=true:=by
 unfold wi.jI at h1
 simp only[Bool.and_eq_true]at h1
 have hr:∀x:Rec,wi.qR x=true→ql x.owner=true:=fun x hx=>by
  unfold wi.qR at hx
  simp only[Bool.and_eq_true]at hx
  exact hx.1.1.1.1
 exact⟨fun x hx=>hr x (List.all_eq_true.1 h1.1.1.2 x hx),fun x hx=>hr x (List.all_eq_true.1 h1.1.2 x hx)⟩
end
theorem pair_same {L l:List Rec}{κ:Key}:Vr (JU l κ) (hset L κ) (fun _=>1) (fun _=>1)=pairB L l κ:=by
 unfold Vr pairB
 rw[decide_eq_decide]
 exact⟨fun h=>⟨h.1,fun a ha=>(h.2 a ha).1⟩,fun h=>⟨h.1,fun a ha=>⟨h.2 a ha,rfl⟩⟩⟩
theorem fold_fold (s:ByteArray):qm (qm s)=qm s:=by
 cases hc:ql s
 ·have h:qm s=ByteArray.empty:=by unfold qm;rw[if_neg (by rw[hc];simp)]
  rw[h];decide
 ·obtain⟨ls,hl⟩:=zT hc
  rw[uf (kg hl),uf hl,lowR_lowR]
theorem chk_size {t:Int}{d:ByteArray}(h:dt.yo t d=0):d.size≤65535:=by
 unfold dt.yo at h
 split at h
 ·split at h
  ·cases h
  ·omega
 ·cases h
theorem Zw {v:Int}(h1:0≤v)(h2:v≤4294967295):(Lit.int .i64 v).wf=true:=by
 simp[Lit.wf,IntKind.min,IntKind.max,IntKind.signed,IntKind.bits]
 omega
theorem right_ok {x:Rec}(h:wi.qR x=true):vN x:=by
 unfold wi.qR at h
 simp only[Bool.and_eq_true]at h
 obtain⟨⟨⟨⟨h1,h2⟩,h3⟩,h4⟩,h5⟩:=h
 have i2:=wi.in_t h2
 have i3:=wi.in_t h3
 have i4:=wi.in_t h4
 have hs:=qP h1
 refine⟨by unfold maxLen;omega,Zw i2.1 (by omega),Zw i3.1 (by omega),Zw i4.1 (by omega),?_⟩
 have hd:x.data.size≤65535:=by
  split at h5
  ·exact of_decide_eq_true h5
  ·rw[Bool.or_eq_true]at h5
   rcases h5 with h | h
   ·unfold wi.jT at h
    simp only[Bool.and_eq_true,decide_eq_true_eq]at h
    omega
   ·exact chk_size (of_decide_eq_true h)
 unfold maxLen;omega
theorem msg_ok {h:Hd}{qs:List Qn}{an au ad:List Rec}(h1:wi.jI h qs an au ad=true):(∀r∈an,vN r)∧∀r∈au,vN r:=by
 unfold wi.jI at h1
 simp only[Bool.and_eq_true]at h1
 exact⟨fun x hx=>right_ok (List.all_eq_true.1 h1.1.1.2 x hx),fun x hx=>right_ok (List.all_eq_true.1 h1.1.2 x hx)⟩
theorem Xk {qf:ByteArray}{L:List Rec}(hv:zn.Valid qf L):∀r∈L,vN r:=fun r hr=>by
 have h:=hv.each r hr
 have ht:=zn.type_of h.2.1
 have h2:=h.2.1
 unfold zn.jV at h2
 simp only[Bool.not_eq_false',Bool.and_eq_true,decide_eq_true_eq]at h2
 have hs:=qP h.1
 have hd:=chk_size h2.2
 exact⟨by unfold maxLen;omega,Zw (by omega) (by omega),Zw (by omega) (by omega),Zw (by omega) (by omega),by unfold maxLen;omega⟩
end up
end Go.Proofs.YtdjjemajfphjaaaGreat
namespace Go.Proofs.YtdjjemajfphjaaaGreat
open Go.RowKit Go.Shelf nm od
theorem ofInt_u32 (a:Nat)(ha:a<4294967296):(BitVec.ofInt 32 (a:Int)).toNat=a:=by
 rw[BitVec.ofInt_natCast,BitVec.toNat_ofNat];exact Nat.mod_eq_of_lt (by omega)
theorem or_byte32 (v b:Nat)(hv:v<16777216)(hb:b<256):bits BinOp.or IntKind.u32 ((v:Int)*256) (b:Int)=((v*256+b:Nat):Int):=by
 have h1:((v:Int)*256)=((v*256:Nat):Int):=by omega
 rw[h1]
 show IntKind.u32.wrap ((BitVec.ofInt 32 ((v*256:Nat):Int) ||| BitVec.ofInt 32 (b:Int)).toNat:Int)=_
 have h2:v*256 ||| b=v*256+b:=by
  have:=Nat.two_pow_add_eq_or_of_lt (i:=8) (b:=b) (by omega) v
  rw[show(2:Nat) ^ 8=256 from rfl,Nat.mul_comm]at this
  exact this.symm
 rw[BitVec.toNat_or,ofInt_u32 _ (by omega),ofInt_u32 _ (by omega),h2]
 rw[IntKind.wrap_u32]
 omega
theorem YM (d:ByteArray)(hd1:20≤d.size)(hd2:d.size≤1099511627776)(w:World):
 Calls Tryz.prog 85 #[.string d] w fun e w'=>e= .returned (.int .u32 (up.Qg d))∧Below w.heap.size w w':=by
 obtain⟨x,hx⟩:∃x:ByteArray,x=d.extract (d.size-20) (d.size-16):=⟨_,rfl⟩
 have hxs:x.size=4:=by rw[hx,ByteArray.size_extract];omega
 obtain⟨w1,cap2,hcv,hsz,hB,hc⟩:=JE (P:=Tryz.prog) w 9 108 5 x Tryz.underlying9 Tryz.underlying108 Tryz.underlying5
 rw[hx]at hcv
 have hr:up.Qg d=(dt.jP x 4:Nat):=by unfold up.Qg;rw[← hx,hxs]
 rw[hxs]at hc
 have hxe:(d.extract (d.size-20) (d.size-16)).size=4:=by rw[← hx];exact hxs
 rw[hxe]at hcv
 have HR:=Lib.hid hr;have HB:=Lib.hid hB;have HC:=Lib.hid hc;have HXS:=Lib.hid hxs
 clear hr hB hc hx hxs hxe hsz
 go_enter Tryz.func85,Tryz.ntmps85
 go_wp2_with fail
 clear hcv hd1 hd2
 go_loopw [16,3,5] (fun kv vv _ wr=>∃k:Nat,k≤4∧kv= .int .i64 (k:Int)∧vv= .int .u32 (dt.jP x k:Nat)∧wr=w1) (fun kv _ _ _=>4-(intOf kv).toNat)
 case atStart=>exact⟨0,by omega,rfl,rfl,rfl⟩
 case round=>
  obtain⟨k,hk,rfl,rfl,rfl⟩:=hrel
  by_cases hlt:k<4
  ·have c0:=(HC.out k hlt).1
   obtain⟨b,hb⟩:∃b,b=uV x k:=⟨_,rfl⟩
   have hv:dt.jP x k<256 ^ 3:=Nat.lt_of_lt_of_le (dt.Kq x k) (Nat.pow_le_pow_right (by omega) (by omega))
   have hv2:dt.jP x k<16777216:=Nat.lt_of_lt_of_le hv (by decide)
   have hv3:(dt.jP x k:Int)<16777216:=by omega
   rw[← hb]at c0
   have VO:(b.toNat:Int)<256:=by have:=UInt8.toNat_lt b;omega
   have hor:=or_byte32 (dt.jP x k) b.toNat hv2 (UInt8.toNat_lt _)
   have hnx:(((dt.jP x k*256+b.toNat:Nat)):Int)=(dt.jP x (k+1):Nat):=by rw[hb];rfl
   rw[hnx]at hor
   have HOR:=Lib.hid hor
   have HV2:=Lib.hid hv2
   have hlt':(k:Int)<4:=by omega
   have HLT:=Lib.hid hlt
   clear hor hnx hv hb hv2 hk hlt
   go_wp2_with fail
   go_roundw
   case rel=>exact⟨k+1,by omega,by go_num,by rw[HOR.out],trivial⟩
   case measure=>simp[intOf];omega
  ·obtain rfl:k=4:=by omega
   go_wp2_with fail
   go_ret
   exact⟨by rw[HR.out];rfl,HB.out⟩
end Go.Proofs.YtdjjemajfphjaaaGreat
namespace Go.Proofs.YtdjjemajfphjaaaGreat
open Go.RowKit Go.Shelf nm od
namespace up
def ser2 (x:Rec):Int:=if x.typ=6 then Qg x.data else 0
end up
theorem serial2_any (x:Rec)(hx:x.typ=6→20≤x.data.size∧x.data.size≤1099511627776)(w:World):
 Calls Tryz.prog 46 #[zB x] w fun e w'=>e= .returned (.int .u32 (up.ser2 x))∧Below w.heap.size w w':=by
 obtain⟨wa,hwa⟩:∃W,W=w.alloc (.cells (recC x).toArray 51):=⟨_,rfl⟩
 obtain⟨hBa,hsa,hxa⟩:=qM w wa x hwa
 obtain⟨bx,hbx⟩:∃b,b=w.heap.size:=⟨_,rfl⟩
 rw[← hbx]at hxa
 obtain⟨x0,x1,x2,x3,x4⟩:=id hxa
 have HWA:=Lib.hid hwa;have HBX:=Lib.hid hbx;have HBA:=Lib.hid hBa;have HX:=Lib.hid hx
 clear hwa hbx hxa hBa hsa hx
 go_enter Tryz.func46,Tryz.ntmps46
 go_upto_region 1 with fail
 rw[← HWA.out,← HBX.out]
 by_cases k6:x.typ=6
 ·have d6:(x.typ != 6)=false:=by rw[bne_eq_false_iff_eq];exact k6
  have HS:=Lib.hid (show up.ser2 x=up.Qg x.data by unfold up.ser2;rw[if_pos k6])
  obtain⟨h1,h2⟩:=HX.out k6
  clear k6
  go_wp2_with fail
  refine(YM x.data h1 h2 wa).mono ?_
  rintro e w1 ⟨rfl,hB1⟩
  have HB1:=Lib.hid (HBA.out.trans (hB1.mono HBA.out.size))
  clear hB1 h1 h2
  go_wp2_with fail
  go_ret
  exact⟨by rw[HS.out];rfl,HB1.out⟩
 ·have d6:(x.typ != 6)=true:=by rw[bne_iff_ne];exact k6
  have HS:=Lib.hid (show up.ser2 x=0 by unfold up.ser2;rw[if_neg k6])
  clear k6
  go_wp2_with fail
  go_ret
  exact⟨by rw[HS.out];rfl,HBA.out⟩
theorem Xh (d:ByteArray)(hd1:20≤d.size)(hd2:d.size≤1099511627776)(v:Nat)(hv:v<4294967296)(w:World):
 Calls Tryz.prog 47 #[.string d,.int .u32 (v:Int)] w fun e w'=>e= .returned (.string (up.Q0 d v))∧Below w.heap.size w w':=by
 have hv1:(v:Int)<4294967296:=by omega
 have hcv:(convert 108 9 (.slice (some ⟨w.heap.size,0,none⟩) 4 4)).run Tryz.prog (w.alloc (.cells #[.int .u8 ((v:Int) / 16777216),.int .u8 ((v:Int) / 65536 % 256),.int .u8 ((v:Int) / 256 % 256),.int .u8 ((v:Int) % 256)] 5)).drew= .ok (.string ⟨[UInt8.ofNat (v / 16777216),UInt8.ofNat (v / 65536),UInt8.ofNat (v / 256),UInt8.ofNat v].toArray⟩) (w.alloc (.cells #[.int .u8 ((v:Int) / 16777216),.int .u8 ((v:Int) / 65536 % 256),.int .u8 ((v:Int) / 256 % 256),.int .u8 ((v:Int) % 256)] 5)).drew:=by
  refine run_convert_bytes_back (P:=Tryz.prog) _ 108 9 5 ⟨w.heap.size,0,none⟩ 4 [UInt8.ofNat (v / 16777216),UInt8.ofNat (v / 65536),UInt8.ofNat (v / 256),UInt8.ofNat v] Tryz.underlying108 Tryz.underlying5 Tryz.underlying9 (fun j hj=>?_)
  have h0:(w.alloc (.cells #[.int .u8 ((v:Int) / 16777216),.int .u8 ((v:Int) / 65536 % 256),.int .u8 ((v:Int) / 256 % 256),.int .u8 ((v:Int) % 256)] 5)).drew.heap[w.heap.size]? =some (.cells #[.int .u8 ((v:Int) / 16777216),.int .u8 ((v:Int) / 65536 % 256),.int .u8 ((v:Int) / 256 % 256),.int .u8 ((v:Int) % 256)] 5 (0,0)):=qo (w:=w) rfl
  have hj4:j<4:=hj
  have hc:∀n:Nat,((UInt8.ofNat n).toNat:Int)=((n % 256:Nat):Int):=fun n=>by rw[UInt8.toNat_ofNat']
  have hjj:j=0∨j=1∨j=2∨j=3:=by omega
  rcases hjj with rfl | rfl | rfl | rfl
  ·rw[show(⟨w.heap.size,0,none⟩:Addr).add 0=⟨w.heap.size,0,none⟩ from rfl,qg h0]
   simp only[List.getElem_cons_zero,hc]
   have:((v / 16777216 % 256:Nat):Int)=(v:Int) / 16777216:=by omega
   rw[this];rfl
  ·rw[show(⟨w.heap.size,0,none⟩:Addr).add 1=⟨w.heap.size,1,none⟩ from rfl,qg h0]
   simp only[List.getElem_cons_succ,List.getElem_cons_zero,hc]
   have:((v / 65536 % 256:Nat):Int)=(v:Int) / 65536 % 256:=by omega
   rw[this];rfl
  ·rw[show(⟨w.heap.size,0,none⟩:Addr).add 2=⟨w.heap.size,2,none⟩ from rfl,qg h0]
   simp only[List.getElem_cons_succ,List.getElem_cons_zero,hc]
   have:((v / 256 % 256:Nat):Int)=(v:Int) / 256 % 256:=by omega
   rw[this];rfl
  ·rw[show(⟨w.heap.size,0,none⟩:Addr).add 3=⟨w.heap.size,3,none⟩ from rfl,qg h0]
   simp only[List.getElem_cons_succ,List.getElem_cons_zero,hc]
   have:((v % 256:Nat):Int)=(v:Int) % 256:=by omega
   rw[this];rfl
 go_enter Tryz.func47,Tryz.ntmps47
 go_upto_region 2 with fail
 have hB:=(((Below.refl w.heap.size w).alloc (Nat.le_refl _) (.cells #[.int .u8 ((v:Int) / 16777216),.int .u8 ((v:Int) / 65536 % 256),.int .u8 ((v:Int) / 256 % 256),.int .u8 ((v:Int) % 256)] 5)).trans (Below.refl _ _).drew)
 have hres:up.Q0 d v=d.extract 0 (d.size-20) ++ ⟨#[UInt8.ofNat (v / 16777216),UInt8.ofNat (v / 65536),UInt8.ofNat (v / 256),UInt8.ofNat v]⟩ ++ d.extract (d.size-20+4) d.size:=by
  unfold up.Q0
  rw[show d.size-20+4=d.size-16 by omega]
 have HB:=Lib.hid hB;have zb:=Lib.hid hres
 clear hB hres
 go_region
 clear hcv
 go_wp2_with fail
 go_ret
 exact⟨by rw[zb.out];rfl,HB.out⟩
end Go.Proofs.YtdjjemajfphjaaaGreat
namespace Go.Proofs.YtdjjemajfphjaaaGreat
open Go.RowKit Go.Shelf Go.WideMaps nm od
namespace up
open zn (qD zh zf qW yX)
def jO (y:Rec):Prop:=ql y.owner=true∧vN y∧(y.typ=6→20≤y.data.size∧y.data.size≤65535)
theorem add_in {qf:ByteArray}{l:List Rec}{x:Rec}(hx:jO x)(hl:∀y∈l,jO y):∀y∈Z4 qf l x,jO y:=by
 intro y hy
 unfold Z4 at hy
 split at hy
 ·obtain⟨r,hr,rfl⟩:=List.mem_map.1 hy
  split
  ·exact hx
  ·exact hl r hr
 ·split at hy
  ·exact hl y hy
  ·rcases List.mem_append.1 hy with h | h
   ·obtain⟨r,hr,rfl⟩:=List.mem_map.1 h
    obtain⟨h1,⟨k1,k2,k3,k4,k5⟩,h3⟩:=hl r (List.mem_filter.1 hr).1
    split
    ·exact⟨h1,⟨k1,k2,k3,hx.2.1.2.2.2.1,k5⟩,h3⟩
    ·exact⟨h1,⟨k1,k2,k3,k4,k5⟩,h3⟩
   ·rw[List.mem_singleton.1 h];exact hx
theorem change_in {qf:ByteArray}{l:List Rec}{x:Rec}(hx:x.cls=1→jO x)(hl:∀y∈l,jO y):∀y∈zO qf l x,jO y:=by
 unfold zO
 split
 ·rename_i h
  exact add_in (hx h) hl
 ·split
  ·intro y hy;exact hl y (List.mem_filter.1 hy).1
  ·unfold Zz
   split
   ·exact hl
   ·intro y hy;exact hl y (List.mem_filter.1 hy).1
theorem xE {qf:ByteArray}{l:List Rec}(hl:∀y∈l,jO y){c:List Rec}(hc:∀x∈c,x.cls=1→jO x):∀y∈zK qf l c,jO y:=by
 induction c generalizing l with
 | nil=>exact hl
 | cons x t ih=>exact ih (change_in (hc x (List.mem_cons_self ..)) hl) fun y hy=>hc y (List.mem_cons_of_mem _ hy)
theorem valid_in {qf:ByteArray}{L:List Rec}(hv:zn.Valid qf L)(hok:∀r∈L,vN r):∀y∈L,jO y:=fun y hy=>by
 have h:=hv.each y hy
 refine⟨h.1,hok y hy,fun h6=>?_⟩
 have h2:=h.2.1
 unfold zn.jV at h2
 simp only[Bool.not_eq_false',Bool.and_eq_true,decide_eq_true_eq]at h2
 have h3:=h2.2
 rw[h6]at h3
 exact dt.Xo h3
theorem right_in {x:Rec}(h:wi.qR x=true)(hok:vN x)(hc:x.cls=1):jO x:=by
 unfold wi.qR at h
 simp only[Bool.and_eq_true]at h
 refine⟨h.1.1.1.1,hok,fun h6=>?_⟩
 have h2:=h.2
 rw[if_neg (by omega)]at h2
 have he:wi.jT x=false:=by unfold wi.jT;simp[hc]
 rw[he,Bool.false_or,decide_eq_true_eq,h6]at h2
 exact dt.Xo h2
theorem msg_in {h:Hd}{qs:List Qn}{an au ad:List Rec}(h1:wi.jI h qs an au ad=true)(hok:∀r∈au,vN r):∀x∈au,x.cls=1→jO x:=by
 unfold wi.jI at h1
 simp only[Bool.and_eq_true]at h1
 exact fun x hx hc=>right_in (List.all_eq_true.1 h1.1.2 x hx) (hok x hx) hc
theorem bag_perm (L l:List Rec):Vr (Vh L) (Vh l) (fun a=>((L.count a:Nat):Int)) (fun a=>((l.count a:Nat):Int))=decide (L.Perm l):=by
 unfold Vr
 rw[decide_eq_decide]
 constructor
 ·rintro⟨h1,h2⟩
  have hs:=(Jq (uC _ _ L) (uC _ _ l)).1 ⟨h1,fun a ha=>(h2 a ha).1⟩
  rw[List.perm_iff_count]
  intro a
  by_cases ha:a∈Vh L
  ·have h5:((L.count a:Nat):Int)=((l.count a:Nat):Int):=(h2 a ha).2
   omega
  ·have h3:a∉L:=fun h=>ha (Y0.2 h)
   have h4:a∉l:=fun h=>ha ((hs a).2 (Y0.2 h))
   rw[List.count_eq_zero_of_not_mem h3,List.count_eq_zero_of_not_mem h4]
 ·intro h
  have hs:=(Jq (uC (fun _=>true) id L) (uC (fun _=>true) id l)).2 fun a=>(Y0.trans h.mem_iff).trans Y0.symm
  exact⟨hs.1,fun a ha=>⟨hs.2 a ha,by show((L.count a:Nat):Int)=((l.count a:Nat):Int);rw[h.count_eq]⟩⟩
def jG (ser:Int)(x:Rec):Rec:=if x.typ=6∧Qg x.data=ser then { x with data:=Q0 x.data (XH (Qg x.data)).toNat} else x
theorem Xc {d:ByteArray}(h:20≤d.size):∃n:Nat,Qg d=(n:Int)∧n<4294967296:=by
 refine⟨_,rfl,?_⟩
 have hs:(d.extract (d.size-20) (d.size-16)).size=4:=by rw[ByteArray.size_extract];omega
 rw[hs]
 exact Nat.lt_of_lt_of_le (dt.Kq _ 4) (by decide)
def serL (qf:ByteArray)(L:List Rec):Int:=match qD L (qm qf,6) with
 | r :: _=>zn.xL r.data
 | []=>0
def Yf (qf:ByteArray)(L au:List Rec):List Rec:=bumpL L (zK qf L au) (serL qf L)
theorem out_same {qf:ByteArray}{L au:List Rec}(h:(zK qf L au).Perm L):Yf qf L au=zK qf L au:=by unfold Yf bumpL;rw[if_pos h]
theorem out_other {qf:ByteArray}{L au:List Rec}(h:¬(zK qf L au).Perm L):Yf qf L au=(zK qf L au).map (jG (serL qf L)):=by unfold Yf bumpL;rw[if_neg h];rfl
theorem xW {F:Rec→Rec}{N:List Rec}(j:Nat):((N.take j).map F ++ N.drop j).length=N.length:=by
 rw[List.length_append,List.length_map,List.length_take,List.length_drop];omega
theorem KM {F:Rec→Rec}{N:List Rec}{j:Nat}(hj:j<N.length)(h:j<((N.take j).map F ++ N.drop j).length):((N.take j).map F ++ N.drop j)[j]=N[j]:=by
 have hl:((N.take j).map F).length=j:=by rw[List.length_map,List.length_take];omega
 rw[List.getElem_append_right (by omega),List.getElem_drop]
 simp only[hl,Nat.sub_self,Nat.add_zero]
theorem XE {F:Rec→Rec}{N:List Rec}{j:Nat}(hj:j<N.length):((N.take j).map F ++ N.drop j).set j (F N[j])=(N.take (j+1)).map F ++ N.drop (j+1):=by
 have hl:((N.take j).map F).length=j:=by rw[List.length_map,List.length_take];omega
 rw[List.set_append_right _ _ (by omega),hl,Nat.sub_self,List.drop_eq_getElem_cons hj,List.set_cons_zero,List.take_succ_eq_append_getElem hj,List.map_append,List.append_assoc]
 rfl
theorem ZG {F:Rec→Rec}{y:Rec}{N:List Rec}{j:Nat}(hj:j<N.length)(hy:y=N[j])(hf:F y=y):(N.take j).map F ++ N.drop j=(N.take (j+1)).map F ++ N.drop (j+1):=by
 subst hy
 have hlen:j<((N.take j).map F ++ N.drop j).length:=by rw[xW];exact hj
 have hat:=KM (F:=F) hj hlen
 rw[← XE hj,hf]
 conv=>lhs;rw[← List.set_getElem_self hlen,hat]
end up
theorem XC (t:ByteArray):∀(l:List Rec) (k:Nat) (h:k<l.length),(qG l).set (k*5+4) (.string t)=qG (l.set k { l[k]with data:=t})
 | [],k,h=>by simp at h
 | a :: r,0,_=>by
   show(recC a ++ qG r).set (0*5+4) _=recC _ ++ qG r
   simp
 | a :: r,k+1,h=>by
   have ih:=XC t r k (by simpa using h)
   have e:qG (a :: r)= .string a.owner :: .int .i64 a.typ :: .int .i64 a.cls :: .int .i64 a.ttl :: .string a.data :: qG r:=rfl
   rw[List.set_cons_succ,e,show(k+1)*5+4=k*5+4+1+1+1+1+1 by omega]
   simp only[List.set_cons_succ,List.getElem_cons_succ]
   rw[ih]
   rfl
theorem zn.newE_code {qf:ByteArray}{l:List Rec}{k c:Int}(h:zn.yY qf l=some (k,c)):c≠0:=by
 have hp:∀e,zn.ug qf l=some e→e.2≠0:=fun e he=>by
  unfold zn.ug at he
  split at he
  ·obtain rfl:=Option.some.inj he;simp
  ·split at he
   ·obtain rfl:=Option.some.inj he;simp
   ·cases he
 have hr:∀e,zn.yh qf l=some e→e.2≠0:=fun e he=>by
  unfold zn.yh at he
  split at he
  ·obtain rfl:=Option.some.inj he;simp
  ·split at he
   ·obtain rfl:=Option.some.inj he;simp
   ·split at he
    ·obtain rfl:=Option.some.inj he;simp
    ·split at he
     ·obtain rfl:=Option.some.inj he;simp
     ·split at he
      ·obtain rfl:=Option.some.inj he;simp
      ·split at he
       ·obtain rfl:=Option.some.inj he;simp
       ·split at he
        ·obtain rfl:=Option.some.inj he;simp
        ·split at he
         ·obtain rfl:=Option.some.inj he;simp
         ·cases he
 unfold zn.yY at h
 split at h
 ·have e:=Option.some.inj h
  simp only[Prod.mk.injEq]at e
  omega
 ·split at h
  ·have e:=Option.some.inj h
   simp only[Prod.mk.injEq]at e
   omega
  ·split at h
   ·rename_i e he
    obtain rfl:=Option.some.inj h
    exact hp _ he
   ·exact hr _ h
end Go.Proofs.YtdjjemajfphjaaaGreat
