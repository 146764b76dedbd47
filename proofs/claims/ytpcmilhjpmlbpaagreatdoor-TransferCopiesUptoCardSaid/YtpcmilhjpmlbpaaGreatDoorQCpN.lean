import Derived.Test.YtpcmilhjpmlbpaaGreatDoorQCpR
import Derived.Test.YtpcmilhjpmlbpaaGreatDoorQTrU
import Derived.Test.YtpcmilhjpmlbpaaGreatDoorQTrV
import Derived.Test.YtpcmilhjpmlbpaaGreatDoorQTrN
import Derived.Test.YtpcmilhjpmlbpaaGreatDoorQCpC
import Derived.Test.YtpcmilhjpmlbpaaGreatDoorQTrJ
import Derived.Test.YtpcmilhjpmlbpaaGreatDoorQZoneP
import Derived.Test.YtpcmilhjpmlbpaaGreatDoorQRefY
import Derived.Test.YtpcmilhjpmlbpaaGreatDoorQRzF
import Derived.Test.YtpcmilhjpmlbpaaGreatDoorQRefB
import Derived.Test.YtpcmilhjpmlbpaaGreatDoorQDelG
import Derived.Deep.RegionHeld3
import Derived.Deep.CutBlock
import Derived.Deep.RegionLaw
set_option maxRecDepth 100000
set_option maxHeartbeats 8000000
namespace Go.Proofs.YtpcmilhjpmlbpaaGreatDoor
open Go.RowKit Go.Shelf nm od
namespace tr
inductive Out where
 | err (c:Int)
 | same
 | make (ap:ByteArray) (l:List Rec)
def Ye (ap:ByteArray)(x:Rec)(t:List Rec):Out:=if x∈t then(if(Zk t x).toNat+1<t.length then .err 11 else .make ap (x :: t.take (Zk t x).toNat)) else .err 10
def ui (Z:Zn)(x:Rec)(t:List Rec):Out:=if(yY x (q9 Z,false,q8 Z.l) t).1=0 then .make Z.ap (yY x (q9 Z,false,q8 Z.l) t).2 else .err (yY x (q9 Z,false,q8 Z.l) t).1
def Qm (Z:Option Zn)(name:ByteArray):List Rec→Out
 | []=>.err 15
 | x :: t=>if x.typ≠6∨x.data.size=0∨qF x.owner name=false then .err 15
   else match Z with
    | some A=>if t.length=0 then(if zy (up.Yb x.data) (zH A)=false then .same else .err 10) else if(t.headD Xe).typ=6 then ui A x t else Ye name x t
    | none=>if t.length=0 then .err 10 else Ye name x t
def YJ (q a:Msg):Bool:=!(wi.jX a.h a.qs a.an a.au a.ad && a.h.K9 && decide (a.h.id=q.h.id) && decide (a.h.op=0) && decide (a.qs=q.qs) && decide (a.au.length=0))
def zF (Z:Option Zn)(q:Msg):Bool:=match q.qs with
 | [n]=>decide (q.h=hdI q.h.id) && decide (n.cls=1) && decide (q.an.length=0) && decide (q.ad.length=0) && decide (0≤q.h.id∧q.h.id≤65535) &&
   (if n.typ=252 then qj n.name && decide (q.au.length=0) else match Z with
    | some A=>decide (n.typ=251∧n.name=A.ap∧q.au= [q9 A])
    | none=>false)
 | _=>false
def nameQ (q:Msg):Qn:=match q.qs with
 | n :: _=>n
 | []=>⟨ByteArray.empty,0,0⟩
def rowsOf (xs:List Msg):List Rec:=xs.flatMap (·.an)
def ko (Z:Option Zn)(q:Msg)(xs:List Msg):Out:=
 if zF Z q=false then .err 8 else if xs.length=0 then .err 10 else if xs.any (YJ q)=true then .err 8 else if xs.any (fun a=>!decide (a.h.ug=0))=true then .err 28
 else Qm (if(nameQ q).typ=251 then Z else none) (nameQ q).name (rowsOf xs)
def xY (n:ByteArray)(t id:Int)(au:List Rec):Msg:=⟨hdI id,[⟨n,t,1⟩],[],au,[]⟩
section
variable {n:ByteArray}{x:Rec}{t:List Rec}{A:Zn}
theorem Ki (h:¬(x.typ≠6∨x.data.size=0∨qF x.owner n=false)):Qm none n (x :: t)=if t.length=0 then .err 10 else Ye n x t:=if_neg h
theorem xz (h:¬(x.typ≠6∨x.data.size=0∨qF x.owner n=false)):Qm (some A) n (x :: t)=if t.length=0 then(if zy (up.Yb x.data) (zH A)=false then .same else .err 10) else if(t.headD Xe).typ=6 then ui A x t else Ye n x t:=if_neg h
theorem row_soa {Z:Option Zn}(h:x.typ≠6∨x.data.size=0∨qF x.owner n=false):Qm Z n (x :: t)= .err 15:=if_pos h
end
theorem JH (a:Int):zy a a=false:=by
 unfold zy up.zy
 rw[Int.sub_self]
 simp
theorem V8 (l:List Rec):∀k,(jQ l k).flatten=l.take (k*16)
 | 0=>by simp[jQ]
 | k+1=>by
   rw[parts_next,List.flatten_append,V8 l k,Nat.add_mul,Nat.one_mul,List.take_add]
   simp[ku]
theorem rows_rowM (h:Hd)(qs:List Qn):∀P:List (List Rec),rowsOf (ZI h qs P)=P.flatten
 | []=>rfl
 | p :: P=>by
   have:=rows_rowM h qs P
   unfold rowsOf ZI at this ⊢
   rw[List.map_cons,List.flatMap_cons,this,List.flatten_cons]
theorem uA {z:Zn}(hv:Ok z){x:Rec}(hx:x∈z.l):wi.ze x=true:=by
 obtain⟨h1,h2,_⟩:=hv.each x hx
 unfold zn.jq at h2
 simp only[Bool.not_eq_false',Bool.and_eq_true,decide_eq_true_eq]at h2
 obtain⟨⟨⟨⟨_,hc⟩,ht0⟩,ht1⟩,hd⟩:=h2
 have hh:dt.yo x.typ=true:=by
  cases e:dt.yo x.typ
  ·unfold dt.yT at hd;rw[if_neg (by rw[e];simp)]at hd;cases hd
  ·rfl
 unfold dt.yo at hh
 simp only[Bool.and_eq_true,Bool.or_eq_true,decide_eq_true_eq]at hh
 rw[wi.rest h1 (decide_eq_true ⟨by omega,by omega⟩) (decide_eq_true ⟨by omega,by omega⟩) (decide_eq_true ⟨by omega,by omega⟩) hh.1.2,hd]
 simp
structure JW (H:List Zn):Prop where
 ne:0<H.length
 ok:∀i,i<H.length→Ok (qZ H i)
 fold:∀i,i<H.length→qw (qZ H i).ap=qw (qM H).ap
theorem JW.last {H:List Zn}(h:JW H):Ok (qM H):=h.ok _ (by have:=h.ne;omega)
theorem mem_whole {z:Zn}(hv:Ok z){x:Rec}(hx:x∈yw z):x∈z.l:=by
 unfold yw at hx
 simp only[List.mem_cons,List.mem_append,List.not_mem_nil,or_false]at hx
 rcases hx with h | h | h
 ·rw[h];exact(yz hv).2.1
 ·exact(kL.1 h).1
 ·rw[h];exact(yz hv).2.1
theorem mem_piece {a b:Zn}(ha:Ok a)(hb:Ok b){x:Rec}(hx:x∈ZL a b):x∈a.l∨x∈b.l:=by
 unfold ZL at hx
 simp only[List.mem_append,List.mem_singleton]at hx
 rcases hx with((h | h) | h) | h
 ·rw[h];exact .inl (yz ha).2.1
 ·exact .inl (kL.1 (uU.1 h).1).1
 ·rw[h];exact .inr (yz hb).2.1
 ·exact .inr (kL.1 (uU.1 h).1).1
theorem steps_right {H:List Zn}(hH:JW H){f:Nat}(hf:f<H.length){x:Rec}(hx:x∈yH H f):wi.ze x=true:=by
 have hl:=uA hH.last (yz hH.last).2.1
 unfold yH at hx
 simp only[List.mem_append,List.mem_singleton]at hx
 rcases hx with(h | h) | h
 ·rw[h];exact hl
 ·unfold yK at h
  obtain⟨i,hi,hm⟩:=List.mem_flatMap.1 h
  have h1:=List.mem_range.1 hi
  rcases mem_piece (hH.ok (f+i) (by omega)) (hH.ok (f+i+1) (by omega)) hm with h | h
  ·exact uA (hH.ok (f+i) (by omega)) h
  ·exact uA (hH.ok (f+i+1) (by omega)) h
 ·rw[h];exact hl
theorem UB {z:Zn}(hv:Ok z){x:Rec}(hx:x∈yw z):wi.ze x=true:=uA hv (mem_whole hv hx)
theorem KI {H:List Zn}{n:ByteArray}{t id:Int}{au row:List Rec}(hid:0≤id∧id≤65535)(ht:0≤t∧t≤65535)(hn:qj n=true)(hau:au.length≤1)(hur:∀x∈au,wi.ze x=true)
 (hr:yE H 0 [⟨n,t,1⟩] au=(row,0)) (hrow:∀x∈row,wi.ze x=true) (hne:row≠[]) {Z:Option Zn} (hask:zF Z (xY n t id au)=true):
 (xO H (xY n t id au)).length=Zh row∧(∀m∈xO H (xY n t id au),0<m.an.length∧m.an.length≤16)∧
  ∀k,k≤Zh row→ko Z (xY n t id au) ((xO H (xY n t id au)).take k)=if k=0 then .err 10 else Qm (if t=251 then Z else none) n (row.take (k*16)):=by
 have hq:wi.qnB ⟨n,t,1⟩=true:=by
  unfold wi.qnB
  simp only[hn,Bool.true_and,Bool.and_eq_true]
  exact⟨decide_eq_true ht,decide_eq_true ⟨by omega,by omega⟩⟩
 have hm:wi.jX (hdI id) [⟨n,t,1⟩] [] au []=true:=by
  unfold wi.jX wi.hdB wi.lenB
  simp only[Bool.and_eq_true,List.all_cons,List.all_nil,hq,Bool.and_true]
  exact⟨⟨⟨⟨decide_eq_true hid,decide_eq_true ⟨by simp,by simp⟩⟩,decide_eq_true ⟨by simp,by simp⟩⟩,decide_eq_true ⟨by simp,by simp,by omega,by simp⟩⟩,List.all_eq_true.2 hur⟩
 have hA:xO H (xY n t id au)=ZI (hdA (hdI id) true 0) [⟨n,t,1⟩] (jQ row (Zh row)):=by
  unfold xO xY
  simp only
  rw[if_neg (by rw[hm];simp),hr]
  rfl
 have hpm:∀i,∀x∈ku row i,wi.ze x=true:=fun i x hx=>hrow x (by unfold ku at hx;exact List.mem_of_mem_drop (List.mem_of_mem_take hx))
 obtain⟨p1,p2,p3⟩:=Xb hne
 refine⟨by rw[hA];unfold ZI;rw[List.length_map,Uc],fun m hmm=>?_,fun k hk=>?_⟩
 ·rw[hA]at hmm
  unfold ZI jQ at hmm
  rw[List.map_map]at hmm
  obtain⟨i,hi,rfl⟩:=List.mem_map.1 hmm
  have hi2:=List.mem_range.1 hi
  simp only[Function.comp]
  unfold ku
  rw[List.length_take,List.length_drop]
  omega
 ·have hT:(xO H (xY n t id au)).take k=ZI (hdA (hdI id) true 0) [⟨n,t,1⟩] (jQ row k):=by
   rw[hA]
   unfold ZI jQ
   rw[← List.map_take,← List.map_take,List.take_range,Nat.min_eq_left hk]
  have hlen:(ZI (hdA (hdI id) true 0) [⟨n,t,1⟩] (jQ row k)).length=k:=by unfold ZI;rw[List.length_map,Uc]
  rw[hT]
  unfold ko
  rw[if_neg (by rw[hask];simp),hlen]
  by_cases h0:k=0
  ·rw[if_pos h0,if_pos h0]
  ·rw[if_neg h0,if_neg h0]
   have hmem:∀m∈ZI (hdA (hdI id) true 0) [⟨n,t,1⟩] (jQ row k),∃i,m=⟨hdA (hdI id) true 0,[⟨n,t,1⟩],ku row i,[],[]⟩:=fun m hm=>by
    unfold ZI jQ at hm
    rw[List.map_map]at hm
    obtain⟨i,_,rfl⟩:=List.mem_map.1 hm
    exact⟨i,rfl⟩
   rw[if_neg,if_neg]
   ·rw[rows_rowM,V8]
    rfl
   ·rw[List.any_eq_true]
    rintro⟨m,hm,h1⟩
    obtain⟨i,rfl⟩:=hmem m hm
    simp at h1
   ·rw[List.any_eq_true]
    rintro⟨m,hm,h1⟩
    obtain⟨i,rfl⟩:=hmem m hm
    have hmb:wi.jX (hdA (hdI id) true 0) [⟨n,t,1⟩] (ku row i) [] []=true:=by
     unfold wi.jX wi.hdB wi.lenB
     simp only[Bool.and_eq_true,List.all_cons,List.all_nil,hq,Bool.and_true]
     exact⟨⟨⟨⟨decide_eq_true hid,decide_eq_true ⟨by simp,by simp⟩⟩,decide_eq_true ⟨by simp,by simp⟩⟩,decide_eq_true ⟨by simp,by have:=V9 row i;omega,by simp,by simp⟩⟩,List.all_eq_true.2 (hpm i)⟩
    unfold YJ xY at h1
    simp only at h1
    rw[hmb]at h1
    simp at h1
theorem soa_data {z:Zn}(hv:Ok z):(q9 z).data.size≠0:=by have:=(Qj hv).1;omega
theorem VL {z:Zn}(hv:Ok z){n:ByteArray}(hn:qj n=true)(h:qw n=qw z.ap):qF (q9 z).owner n=true:=by
 obtain⟨_,h2,h3,_⟩:=yz hv
 obtain⟨_,h4,_⟩:=zn.uH hv.rules
 have h5:=(zn.QL.1 h4).2 _ h2 h3
 rw[zn.U1 (hv.named _ h2) hn hv.ap h]
 exact h5
theorem Ql {z:Zn}(hv:Ok z){n:ByteArray}(hn:qj n=true)(h:qw n=qw z.ap):¬((q9 z).typ≠6∨(q9 z).data.size=0∨qF (q9 z).owner n=false):=by
 rintro(h1 | h1 | h1)
 ·exact h1 (yz hv).2.2.1
 ·exact soa_data hv h1
 ·rw[VL hv hn h]at h1;cases h1
theorem soa_not {z:Zn}(hv:Ok z):q9 z∉q8 z.l:=fun h=>(kL.1 h).2 (yz hv).2.2.1
theorem rest_some {z:Zn}(hv:Ok z):q8 z.l≠[]:=by
 obtain⟨_,_,_,h4,_⟩:=zn.uH hv.rules
 intro h
 apply h4
 match e:zn.qE z.l (qw z.ap,2) with
 | []=>rfl
 | r :: t=>
   have hm:r∈zn.qE z.l (qw z.ap,2):=by rw[e];simp
   obtain⟨h1,h2⟩:=zn.jI.1 hm
   have h3:r.typ=2:=congrArg Prod.snd h2
   have:r∈q8 z.l:=kL.2 ⟨h1,by omega⟩
   rw[h]at this
   cases this
theorem all_whole {z:Zn}(hv:Ok z)(n:ByteArray):Ye n (q9 z) (q8 z.l ++ [q9 z])= .make n (q9 z :: q8 z.l):=by
 have hi:Zk (q8 z.l ++ [q9 z]) (q9 z)=((q8 z.l).length:Int):=by
  unfold Zk
  refine df.Xu (by simp) (fun j hj hlt=>?_) (by simp)
  rw[List.getElem_append_left hlt]
  exact decide_eq_false fun e=>soa_not hv (e ▸ List.getElem_mem hlt)
 unfold Ye
 rw[if_pos (by simp),hi,Int.toNat_natCast,if_neg (by simp),List.take_left]
theorem all_part {z:Zn}(hv:Ok z)(n:ByteArray){j:Nat}(hj:j≤(q8 z.l).length):Ye n (q9 z) ((q8 z.l ++ [q9 z]).take j)= .err 10:=by
 unfold Ye
 rw[if_neg]
 rw[List.take_append_of_le_length hj]
 exact fun h=>soa_not hv (List.mem_of_mem_take h)
theorem head_take {t:List Rec}{j:Nat}(hj:0<j):(t.take j).headD Xe=t.headD Xe:=by
 match t,j,hj with
 | [],j,_=>rw[List.take_nil]
 | x :: t,j+1,_=>rfl
theorem head_rest {z:Zn}(hv:Ok z):((q8 z.l ++ [q9 z]).headD Xe).typ≠6:=by
 match e:q8 z.l with
 | []=>exact absurd e (rest_some hv)
 | r :: t=>
   have:r∈q8 z.l:=by rw[e];simp
   exact(kL.1 this).2
theorem Kj {z:Zn}(hv:Ok z){n:ByteArray}(hn:qj n=true)(h:qw n=qw z.ap)(Z:Option Zn):Qm Z n (yw z)= .make n (q9 z :: q8 z.l):=by
 unfold yw
 cases Z with
 | none=>rw[Ki (Ql hv hn h),if_neg (by simp),all_whole hv]
 | some A=>rw[xz (Ql hv hn h),if_neg (by simp),if_neg (head_rest hv),all_whole hv]
theorem row_part {z:Zn}(hv:Ok z){n:ByteArray}(hn:qj n=true)(h:qw n=qw z.ap)(Z:Option Zn){j:Nat}(hj:1<j)(hl:j<(yw z).length):Qm Z n ((yw z).take j)= .err 10:=by
 obtain⟨i,rfl⟩:∃i,j=i+1:=⟨j-1,by omega⟩
 rw[Q6]at hl
 unfold yw
 rw[List.take_succ_cons]
 have h1:((q8 z.l ++ [q9 z]).take i).length≠0:=by rw[List.length_take,List.length_append,List.length_singleton];omega
 cases Z with
 | none=>rw[Ki (Ql hv hn h),if_neg h1,all_part hv n (by omega)]
 | some A=>rw[xz (Ql hv hn h),if_neg h1,if_neg (by rw[head_take (by omega)];exact head_rest hv),all_part hv n (by omega)]
theorem newer_ne {a b:Int}(h:zy a b=true):a≠b:=fun e=>by rw[e,JH]at h;cases h
theorem VT {H:List Zn}(h:jF H=true){k j:Nat}(hk:k<H.length)(hj:j<k):zy (zH (qZ H k)) (zH (qZ H j))=true:=by
 cases e:zy (zH (qZ H k)) (zH (qZ H j))
 ·rw[risen_bad hk hj e]at h;cases h
 ·rfl
theorem soa_ne {H:List Zn}(hr:jF H=true){f:Nat}(hf:f+1<H.length):q9 (qZ H f)≠q9 (qM H):=fun e=>by
 have h:=newer_ne (VT hr (k:=H.length-1) (j:=f) (by omega) (by omega))
 apply h
 unfold zH
 rw[e]
 rfl
theorem VK {H:List Zn}{f n:Nat}(hn:0<n):((yK H f n ++ [q9 (qM H)]).headD Xe)=q9 (qZ H f):=by
 obtain⟨m,rfl⟩:∃m,n=m+1:=⟨n-1,by omega⟩
 unfold yK
 rw[List.range_succ_eq_map,List.flatMap_cons]
 rfl
theorem len_steps (H:List Zn)(f:Nat):(yH H f).length=(yK H f (H.length-1-f)).length+2:=by unfold yH;simp
theorem steps_full {H:List Zn}(hH:JW H)(hr:jF H=true){f:Nat}(hf:f+1<H.length):∃l',Qm (some (qZ H f)) (qZ H f).ap (yH H f)= .make (qZ H f).ap (l' ++ [q9 (qM H)])∧(l' ++ [q9 (qM H)]).Perm (qM H).l:=by
 obtain⟨n,hn⟩:∃n,n=H.length-1-f:=⟨_,rfl⟩
 obtain⟨l',e1,n1,m1⟩:=XH hH.ok (first:=q9 (qM H)) f n (by omega) fun i hi=>soa_ne hr (by omega)
 have hfn:qZ H (f+n)=qM H:=by unfold qM;congr 1;omega
 rw[hfn]at e1 m1
 refine⟨l',?_,perm_back hH.last n1 m1⟩
 have hA:=hH.ok f (by omega)
 have hrun:yY (q9 (qM H)) (q9 (qZ H f),false,q8 (qZ H f).l) (yK H f n ++ [q9 (qM H)])=(0,l' ++ [q9 (qM H)]):=by
  rw[run_go e1]
  exact run_end (yz hH.last).2.2.1 rfl rfl rfl
 unfold yH
 rw[← hn,List.append_assoc,List.singleton_append]
 rw[xz (Ql hH.last hA.ap (hH.fold f (by omega))),if_neg (by simp),if_pos (by rw[VK (by omega)];exact(yz hA).2.2.1)]
 unfold ui
 rw[hrun]
 simp
theorem steps_part {H:List Zn}(hH:JW H)(hr:jF H=true){f:Nat}(hf:f+1<H.length){j:Nat}(hj:1<j)(hl:j<(yH H f).length):Qm (some (qZ H f)) (qZ H f).ap ((yH H f).take j)= .err 10:=by
 obtain⟨i,rfl⟩:∃i,j=i+1:=⟨j-1,by omega⟩
 rw[len_steps]at hl
 obtain⟨n,hn⟩:∃n,n=H.length-1-f:=⟨_,rfl⟩
 rw[← hn]at hl
 obtain⟨l',e1,-,-⟩:=XH hH.ok (first:=q9 (qM H)) f n (by omega) fun i hi=>soa_ne hr (by omega)
 have hA:=hH.ok f (by omega)
 obtain⟨s2,e2⟩:=go_take i e1
 have ht:(yK H f n ++ [q9 (qM H)]).take i=(yK H f n).take i:=List.take_append_of_le_length (by omega)
 have hrun:yY (q9 (qM H)) (q9 (qZ H f),false,q8 (qZ H f).l) ((yK H f n ++ [q9 (qM H)]).take i)=(10,[]):=by
  rw[ht,← List.append_nil ((yK H f n).take i),run_go e2,run_nil]
 unfold yH
 rw[← hn,List.append_assoc,List.singleton_append,List.take_succ_cons]
 rw[xz (Ql hH.last hA.ap (hH.fold f (by omega))),if_neg (by rw[List.length_take,List.length_append,List.length_singleton];omega),if_pos (by rw[head_take (by omega),VK (by omega)];exact(yz hA).2.2.1)]
 unfold ui
 rw[hrun]
 simp
def ZC (H:List Zn)(Z:Option Zn)(q:Msg):Prop:=0<(xO H q).length∧(xO H q).length≤130∧(∀m∈xO H q,0<m.an.length∧m.an.length≤16)∧(∀k,k<(xO H q).length→∃c,c≠0∧ko Z q ((xO H q).take k)= .err c)∧
 ((ko Z q (xO H q)= .same∧Z=some (qM H))∨∃ap l,ko Z q (xO H q)= .make ap l∧l.Perm (qM H).l∧qj ap=true∧qw ap=qw (qM H).ap)
theorem VD {H:List Zn}{n:ByteArray}{t id:Int}{au row:List Rec}{Z:Option Zn}(hlen:row.length≤2002)(hne:row≠[])(h1:(xO H (xY n t id au)).length=Zh row)(h2:∀m∈xO H (xY n t id au),0<m.an.length∧m.an.length≤16)
 (h3:∀k,k≤Zh row→ko Z (xY n t id au) ((xO H (xY n t id au)).take k)=if k=0 then .err 10 else Qm (if t=251 then Z else none) n (row.take (k*16)))
 (h4:∀j,1<j→j<row.length→Qm (if t=251 then Z else none) n (row.take j)= .err 10)
 (h5:(Qm (if t=251 then Z else none) n row= .same∧Z=some (qM H))∨∃ap l,Qm (if t=251 then Z else none) n row= .make ap l∧l.Perm (qM H).l∧qj ap=true∧qw ap=qw (qM H).ap):ZC H Z (xY n t id au):=by
 obtain⟨p1,p2,p3⟩:=Xb hne
 have hfull:ko Z (xY n t id au) (xO H (xY n t id au))=Qm (if t=251 then Z else none) n row:=by
  have:=h3 (Zh row) (Nat.le_refl _)
  rw[List.take_of_length_le (by omega),if_neg (by omega),List.take_of_length_le (by omega)]at this
  exact this
 refine⟨by omega,by omega,h2,fun k hk=>⟨10,by decide,?_⟩,by rw[hfull];exact h5⟩
 rw[h3 k (by omega)]
 by_cases h0:k=0
 ·rw[if_pos h0]
 ·rw[if_neg h0]
  exact h4 _ (by omega) (by omega)
theorem copy_none {H:List Zn}(hH:JW H){id:Int}(hid:0≤id∧id≤65535):ZC H none (xY (qM H).ap 252 id []):=by
 have hv:=hH.last
 have hsm:=hv.small
 have hwl:=Q6 (qM H)
 have hrl:=uo hv
 have hrow:yE H 0 [⟨(qM H).ap,252,1⟩] []=(yw (qM H),0):=row_whole rfl ⟨rfl,(zn.zO hv.ap hv.ap).2 rfl⟩ rfl
 have hask:zF none (xY (qM H).ap 252 id [])=true:=by
  unfold zF xY
  simp[hv.ap,hid,hdI]
 have hne:yw (qM H)≠[]:=by unfold yw;simp
 obtain⟨h1,h2,h3⟩:=KI (Z:=none) hid (by omega) hv.ap (by simp) (fun x hx=>by cases hx) hrow (fun x hx=>UB hv hx) hne hask
 exact VD (by omega) hne h1 h2 h3 (fun j h4 h5=>row_part hv hv.ap rfl _ h4 h5) (.inr ⟨_,_,Kj hv hv.ap rfl _,V7 hv,hv.ap,rfl⟩)
theorem copy_some {H:List Zn}(hH:JW H)(hr:jF H=true){id:Int}(hid:0≤id∧id≤65535){f:Nat}(hf:f<H.length):ZC H (some (qZ H f)) (xY (qZ H f).ap 251 id [q9 (qZ H f)]):=by
 have hv:=hH.last
 have hA:=hH.ok f hf
 have hsm:=hv.small
 have hwl:=Q6 (qM H)
 have hrl:=uo hv
 have hfo:=hH.fold f hf
 have hs:=yz hA
 have hask:zF (some (qZ H f)) (xY (qZ H f).ap 251 id [q9 (qZ H f)])=true:=by
  unfold zF xY
  simp[hid,hdI]
 have hur:∀x∈[q9 (qZ H f)],wi.ze x=true:=fun x hx=>by rw[List.mem_singleton.1 hx];exact uA hA hs.2.1
 have hrw:yE H 0 [⟨(qZ H f).ap,251,1⟩] [q9 (qZ H f)]=K7 H (zH (qZ H f)):=by
  rw[row_step rfl ⟨rfl,(zn.zO hA.ap hv.ap).2 hfo⟩ rfl hs.2.2.1 (soa_data hA),ser_num hA]
 by_cases hl:f+1<H.length
 ·have hnew:=VT hr (k:=H.length-1) (j:=f) (by omega) (by omega)
  have hfr:frI H (zH (qZ H f)) H.length=(f:Int):=fr_at rfl _ hf fun i h1 h2=>newer_ne (VT hr h2 h1)
  by_cases hst:(yH H f).length≤(yw (qM H)).length
  ·have hrow:yE H 0 [⟨(qZ H f).ap,251,1⟩] [q9 (qZ H f)]=(yH H f,0):=by
    rw[hrw]
    unfold K7
    rw[if_neg (by unfold qM;rw[hnew];simp),hfr,Int.toNat_natCast,if_pos ⟨by omega,hst⟩]
   have hne:yH H f≠[]:=by unfold yH;simp
   obtain⟨h1,h2,h3⟩:=KI (Z:=some (qZ H f)) hid (by omega) hA.ap (by simp) hur hrow (fun x hx=>steps_right hH hf hx) hne hask
   obtain⟨l',h4,h5⟩:=steps_full hH hr hl
   exact VD (by omega) hne h1 h2 h3 (fun j h6 h7=>steps_part hH hr hl h6 h7) (.inr ⟨_,_,h4,h5,hA.ap,hfo⟩)
  ·have hrow:yE H 0 [⟨(qZ H f).ap,251,1⟩] [q9 (qZ H f)]=(yw (qM H),0):=by
    rw[hrw]
    unfold K7
    rw[if_neg (by unfold qM;rw[hnew];simp),hfr,Int.toNat_natCast,if_neg (fun h=>hst h.2)]
   have hne:yw (qM H)≠[]:=by unfold yw;simp
   obtain⟨h1,h2,h3⟩:=KI (Z:=some (qZ H f)) hid (by omega) hA.ap (by simp) hur hrow (fun x hx=>UB hv hx) hne hask
   exact VD (by omega) hne h1 h2 h3 (fun j h4 h5=>row_part hv hA.ap hfo _ h4 h5) (.inr ⟨_,_,Kj hv hA.ap hfo _,V7 hv,hA.ap,hfo⟩)
 ·have hfl:qZ H f=qM H:=by unfold qM;congr 1;omega
  have hrow:yE H 0 [⟨(qZ H f).ap,251,1⟩] [q9 (qZ H f)]=([q9 (qM H)],0):=by
   rw[hrw]
   unfold K7
   rw[hfl,JH,if_pos rfl]
  obtain⟨h1,h2,h3⟩:=KI (Z:=some (qZ H f)) hid (by omega) hA.ap (by simp) hur hrow (fun x hx=>by rw[List.mem_singleton.1 hx];exact uA hv (yz hv).2.1) (by simp) hask
  refine VD (by simp) (by simp) h1 h2 h3 (fun j h4 h5=>by simp at h5;omega) (.inl ⟨?_,by rw[hfl]⟩)
  rw[if_pos rfl]
  rw[xz (Ql hv hA.ap hfo),if_pos (by rfl),← ser_num hv,hfl,JH,if_pos (by rfl)]
end tr
end Go.Proofs.YtpcmilhjpmlbpaaGreatDoor
namespace Go.Proofs.YtpcmilhjpmlbpaaGreatDoor
open Go.RowKit Go.Shelf nm od
theorem KF {w:World}{v:Value}{l:List Rec}(h:qz w v l)(hp:0<l.length):zZ v:=by
 obtain⟨a,cap,rfl,_,hr⟩:=h
 obtain⟨b,off,rfl,_⟩:=hr 0 hp
 exact .inr ⟨_,_,_,_,rfl⟩
theorem XU (ad:Addr)(cap:Nat)(w:World):
 Calls Tryz.prog 38 #[.slice (some ad) 0 cap] w fun e w'=>∃v',e= .returned v'∧Below w.heap.size w w'∧w'.ownsRow w.heap.size 80 5 v' 0 []:=by
 have q31:∀(w:World) (a:Option Addr) (n c n' c':Nat),(binOp .eql 31 (.slice a n c) (.slice none n' c')).run Tryz.prog w= .ok (.bool a.isNone) w:=fun w a n c n' c'=>Lib.run_eql_slice_nil w _ _ a n c n' c' Tryz.underlying31
 obtain⟨i0,hi,hz,hz1,hz2⟩:=info_parts uY
 have HI:=Lib.hid hi;have HZ:=Lib.hid hz;have HZ1:=Lib.hid hz1;have HZ2:=Lib.hid hz2
 clear hi hz hz1 hz2
 go_enter Tryz.func38,Tryz.ntmps38
 go_wp2_with (at_builtin;refine wpList_append_own _ rfl _ _ 31 rfl w.heap.size 80 i0 (.agg #[.string ⟨#[]⟩,.int .i64 0,.int .i64 0,.int .i64 0,.string ⟨#[]⟩]) 5 56 Tryz.underlying31 HI.out HZ.out HZ1.out HZ2.out rfl (by decide) _ _ _ rfl (World.ownsRow_made w #[] 0 (Nat.le_refl _) (Nat.zero_le _) (by simp)) ad 0 cap [] rfl rfl (fun j u h=>by cases h) (fun u h=>by cases h) (by unfold maxLen;omega) (by omega) (by simp) ?_)
 intro v' w1 hown hgrow hnil
 go_wp2
 go_ret
 exact⟨v',rfl,((Below.refl _ w).alloc (Nat.le_refl _) _).grown hgrow (by simp) (by intro k hk;simp[Value.ownBlock]at hk;omega),by simpa using hown⟩
theorem XT (l:List Rec)(hl:l.length*56≤140737488355328)(v:Value)(hf:yU v)(w:World)(hrv:qz w v l):
 Calls Tryz.prog 38 #[v] w fun e w'=>∃v',e= .returned v'∧Below w.heap.size w w'∧w'.ownsRow w.heap.size 80 5 v' l.length (qx l):=by
 by_cases hp:0<l.length
 ·exact jm l hl v (KF hrv hp) w hrv
 ·obtain rfl:l= []:=List.eq_nil_of_length_eq_zero (by omega)
  rcases hf with rfl | ⟨ad,n,cap,rfl⟩
  ·exact jm [] hl _ (.inl rfl) w hrv
  ·obtain⟨a,c,hv,_⟩:=hrv
   simp only[Value.slice.injEq,List.length_nil]at hv
   obtain⟨_,rfl,_⟩:=hv
   exact XU ad cap w
end Go.Proofs.YtpcmilhjpmlbpaaGreatDoor
namespace Go.Proofs.YtpcmilhjpmlbpaaGreatDoor
open Go.RowKit Go.Shelf Go.WideMaps nm od
theorem zn.newE_code7 {qf:ByteArray}{l:List Rec}{k c:Int}(h:zn.yx qf l=some (k,c)):c≠0:=by
 have hp:∀e,zn.yZ qf l=some e→e.2≠0:=fun e he=>by
  unfold zn.yZ at he
  split at he
  ·obtain rfl:=Option.some.inj he;simp
  ·split at he
   ·obtain rfl:=Option.some.inj he;simp
   ·cases he
 have hr:∀e,zn.zB qf l=some e→e.2≠0:=fun e he=>by
  unfold zn.zB at he
  split at he
  ·obtain rfl:=Option.some.inj he;simp
  ·split at he
   ·obtain rfl:=Option.some.inj he;simp
   ·split at he
    ·obtain rfl:=Option.some.inj he;simp
    ·split at he
     ·obtain rfl:=Option.some.inj he;simp
     ·split at he
      ·obtain rfl:=Option.some.inj he;simp
      ·split at he
       ·obtain rfl:=Option.some.inj he;simp
       ·split at he
        ·obtain rfl:=Option.some.inj he;simp
        ·split at he
         ·obtain rfl:=Option.some.inj he;simp
         ·cases he
 unfold zn.yx at h
 split at h
 ·have e:=Option.some.inj h
  simp only[Prod.mk.injEq]at e
  omega
 ·split at h
  ·have e:=Option.some.inj h
   simp only[Prod.mk.injEq]at e
   omega
  ·split at h
   ·rename_i e he
    obtain rfl:=Option.some.inj h
    exact hp _ he
   ·exact hr _ h
abbrev jO (c:Int):Value:=.iface 105 (.agg #[.int .i64 c])
def jd (qf:ByteArray)(l:List Rec)(w:World)(e:Ending)(w':World):Prop:=Below w.heap.size w w'∧
 ((zn.yx qf l=none∧∃top z L,zI l L∧e= .returned (.tuple #[.pointer (some ⟨z,0,none⟩),.nilIface])∧jc w' top z qf L)∨∃k c,zn.yx qf l=some (k,c)∧c≠0∧e= .returned (.tuple #[.pointer none,jO c]))
theorem made_any (qf:ByteArray)(l:List Rec)(hok:∀r∈l,(Lit.int .i64 r.typ).wf=true)(v:Value)(hf:zZ v)(w:World)(hrv:qz w v l):
 Calls Tryz.prog 140 #[.string qf,v] w fun e w'=>jd qf l w e w':=by
 have HN:=Lib.hid (new_any qf l hok v hf w hrv)
 obtain⟨a,cap,rfl,-⟩:=id hrv
 clear hrv hf hok
 go_enter Tryz.func140,Tryz.ntmps140
 go_wp2_with fail
 refine HN.out.mono ?_
 intro e w1 hp
 rcases hne:zn.yx qf l with _ | ⟨k0,c0⟩
 ·obtain⟨hB1,z,L,_,hs,rfl,hzf⟩:=Kq hp hne
  have HF:=Lib.hid (show jd qf l w (.returned (.tuple #[.pointer (some ⟨z,0,none⟩),.nilIface])) w1 from⟨hB1,.inl ⟨hne,_,z,L,hs,rfl,hzf⟩⟩)
  clear hp hne hB1 hs hzf
  go_wp2_with fail
  go_ret2
  exact HF.out
 ·obtain⟨hB1,rfl⟩:=newPost_bad hp hne
  have hc:=zn.newE_code7 hne
  have d1:(c0 != 0)=true:=by rw[bne_iff_ne];exact hc
  have HF:=Lib.hid (show jd qf l w (.returned (.tuple #[.pointer none,jO c0])) w1 from⟨hB1,.inr ⟨k0,c0,hne,hc,rfl⟩⟩)
  clear hp hne hB1 hc
  go_wp2_with fail
  go_ret2
  exact HF.out
end Go.Proofs.YtpcmilhjpmlbpaaGreatDoor
namespace Go.Proofs.YtpcmilhjpmlbpaaGreatDoor
open Go.RowKit Go.Shelf nm od
def JU (w:World)(t:Nat)(zv:Value)(n:ByteArray)(s:Bool)(l:List Rec)(v:Value):Prop:=qz w v l∧t<w.heap.size∧w.cell? ⟨t,0,none⟩=some zv∧w.cell? ⟨t,1,none⟩=some (.string n)∧w.cell? ⟨t,2,none⟩=some (.bool s)∧w.cell? ⟨t,3,none⟩=some v
theorem JU.below {w w':World}{t:Nat}{zv:Value}{n:ByteArray}{s:Bool}{l:List Rec}{v:Value}(h:JU w t zv n s l v)(hB:Below w.heap.size w w'):JU w' t zv n s l v:=by
 obtain⟨h1,h2,c0,c1,c2,c3⟩:=h
 exact⟨h1.below hB,Nat.lt_of_lt_of_le h2 hB.size,(hB.cell (p:=⟨t,_,none⟩) h2).trans c0,(hB.cell (p:=⟨t,_,none⟩) h2).trans c1,(hB.cell (p:=⟨t,_,none⟩) h2).trans c2,(hB.cell (p:=⟨t,_,none⟩) h2).trans c3⟩
def vO (o:tr.Out)(zv:Value)(w:World)(e:Ending)(w':World):Prop:=match o with
 | .err c=>c≠0∧Below w.heap.size w w'∧e= .returned (.tuple #[.pointer none,jO c])
 | .same=>Below w.heap.size w w'∧e= .returned (.tuple #[zv,.nilIface])
 | .make ap l=>jd ap l w e w'
theorem jd.from {ap:ByteArray}{l:List Rec}{w w1 w':World}{e:Ending}(hB:Below w.heap.size w w1)(h:jd ap l w1 e w'):jd ap l w e w':=⟨hB.trans (h.1.mono hB.size),h.2⟩
theorem jd.two {ap:ByteArray}{l:List Rec}{w w':World}{e:Ending}(h:jd ap l w e w'):Below w.heap.size w w'∧∃r1 r2,e= .returned (.tuple #[r1,r2])∧jd ap l w (.returned (.tuple #[r1,r2])) w':=by
 refine⟨h.1,?_⟩
 rcases h with⟨hB,⟨h1,t,z,L,hs,rfl,hz⟩|⟨k,c,h1,h2,rfl⟩⟩
 ·exact⟨_,_,rfl,hB,.inl ⟨h1,t,z,L,hs,rfl,hz⟩⟩
 ·exact⟨_,_,rfl,hB,.inr ⟨k,c,h1,h2,rfl⟩⟩
theorem vO.from {o:tr.Out}{zv:Value}{w w1 w':World}{e:Ending}(hB:Below w.heap.size w w1)(h:vO o zv w1 e w'):vO o zv w e w':=by
 cases o with
 | err c=>exact⟨h.1,hB.trans (h.2.1.mono hB.size),h.2.2⟩
 | same=>exact⟨hB.trans (h.1.mono hB.size),h.2⟩
 | make ap l=>exact jd.from hB h
theorem idx_in7 {l:List Rec}{x:Rec}(h:x∈l):∃k:Nat,∃hk:k<l.length,l[k]=x∧tr.Zk l x=(k:Int)∧l.erase x=l.take k ++ l.drop (k+1):=by
 unfold tr.Zk df.idx
 cases e:l.findIdx? (fun y=>decide (x=y)) with
 | none=>
   have:=List.findIdx?_eq_none_iff.1 e x h
   simp at this
 | some k=>
   obtain⟨hk,h1,h2⟩:=List.findIdx?_eq_some_iff_getElem.1 e
   have hx:l[k]=x:=(of_decide_eq_true h1).symm
   refine⟨k,hk,hx,rfl,?_⟩
   have hn:x∉l.take k:=fun hm=>by
    obtain⟨j,hj,e⟩:=List.getElem_of_mem hm
    rw[List.length_take]at hj
    rw[List.getElem_take]at e
    have:=h2 j (by omega)
    rw[e]at this
    simp at this
   have hs:l=l.take k ++ x :: l.drop (k+1):=by rw[← hx,List.getElem_cons_drop,List.take_append_drop]
   have he:(l.take k ++ x :: l.drop (k+1)).erase x=l.take k ++ l.drop (k+1):=by rw[List.erase_append_right _ hn,List.erase_cons_head]
   rw[← he]
   exact congrArg (fun l=>l.erase x) hs
theorem all_any (t:Nat)(zv:Value)(n:ByteArray)(s:Bool)(x:Rec)(tl:List Rec)(hp:0<tl.length)(hl:(x :: tl).length≤1000000000)(hok:∀r∈x :: tl,(Lit.int .i64 r.typ).wf=true)(v:Value)(w:World)(ht:JU w t zv n s (x :: tl) v):
 Calls Tryz.prog 91 #[.pointer (some ⟨t,0,none⟩)] w fun e w'=>vO (tr.Ye n x tl) zv w e w':=by
 obtain⟨hr,htl,c0,c1,c2,c3⟩:=id ht
 obtain⟨va,vc,rfl,hvc,-⟩:=id hr
 obtain⟨b,off,rfl⟩:=Qo hr (by simp)
 obtain⟨hbl,r0,r1,r2,r3,r4⟩:=qN hr (j:=0) (by simp)
 simp only[List.getElem_cons_zero,Nat.zero_mul,Nat.add_zero]at r0 r1 r2 r3 r4
 have hdr:=UK hr (k:=1) (by simp)
 simp only[List.drop_one,List.tail_cons,Nat.one_mul]at hdr
 obtain⟨m,hm⟩:∃m,m=(x :: tl).length:=⟨_,rfl⟩
 have hm2:m=tl.length+1:=by rw[hm];rfl
 rw[← hm]at hdr hl hvc
 have HI:=Lib.hid (show ∀X,Below w.heap.size w X→Calls Tryz.prog 141 #[.slice (some ⟨b,off+5,none⟩) (m-1) (vc-1),yA x] X fun e w'=>e= .returned (.int .i64 (tr.Zk tl x))∧Below X.heap.size X w' from fun X hX=>
  Um tl (by omega) x _ X (hdr.below hX))
 have HT:=Lib.hid ht;have HR:=Lib.hid hr;have HM:=Lib.hid hm;have HOK:=Lib.hid hok
 have zJ:=Lib.hid (show ∀X,Below w.heap.size w X→Below w.heap.size w X∧X.cell? ⟨t,3,none⟩=some (.slice (some ⟨b,off,none⟩) m vc)∧X.cell? ⟨b,off,none⟩=some (.string x.owner)∧X.cell? ⟨b,off+1,none⟩=some (.int .i64 x.typ)∧X.cell? ⟨b,off+2,none⟩=some (.int .i64 x.cls)∧X.cell? ⟨b,off+3,none⟩=some (.int .i64 x.ttl)∧X.cell? ⟨b,off+4,none⟩=some (.string x.data) from fun X hX=>
  ⟨hX,by rw[hm];exact(ht.below hX).2.2.2.2.2,(show Z9 w b off x from⟨r0,r1,r2,r3,r4⟩).keep (hX.block b hbl)⟩)
 rw[← hm]at c3
 have e0:0<m:=by omega
 have e1:(1:Int)≤(m:Int):=by omega
 have e2:m≤vc:=hvc
 have e20:1≤m:=by omega
 have e21:1≤vc:=by omega
 have e22:¬(vc=1):=by omega
 have HM2:=Lib.hid hm2
 clear ht hr hm hok hdr hm2 hvc hp
 go_enter Tryz.func91,Tryz.ntmps91
 go_upto_region 1 with fail
 go_cut [4] (fun s wx=>s= .int .i64 (IntKind.i64.wrap (tr.Zk tl x+1))∧Below w.heap.size w wx)
 case first=>
  obtain⟨-,-,a0,a1,a2,a3,a4⟩:=zJ.out w (Below.refl _ _)
  go_region_held3 (fun X=>Below w.heap.size w X∧X.cell? ⟨t,3,none⟩=some (.slice (some ⟨b,off,none⟩) m vc)∧X.cell? ⟨b,off,none⟩=some (.string x.owner)∧X.cell? ⟨b,off+1,none⟩=some (.int .i64 x.typ)∧X.cell? ⟨b,off+2,none⟩=some (.int .i64 x.cls)∧X.cell? ⟨b,off+3,none⟩=some (.int .i64 x.ttl)∧X.cell? ⟨b,off+4,none⟩=some (.string x.data))
   (first | assumption | exact zJ.out _ (Below.refl _ _).drew | (go_split_ands;exact zJ.out _ (by assumption)))
   (first | (go_at_call 141;(with_reducible refine(HI.out _ (by go_split_ands;assumption)).mono ?_);rintro e wX ⟨rfl,hbX⟩;go_split_ands;have Jb:=Below.trans (B:=w.heap.size) (a:=w) (by assumption) (hbX.mono (Below.size (by assumption)))))
  all_goals (go_wp2_with fail;go_meet;exact⟨rfl,Jb⟩)
 obtain⟨rfl,hB1⟩:=hcut
 obtain⟨w1,hw1⟩:∃X:World,X=wc:=⟨_,rfl⟩
 subst hw1
 obtain⟨-,c3,-⟩:=zJ.out w1 hB1
 have HB1:=Lib.hid hB1
 have hc1:=(HT.out.below hB1).2.2.2.1
 clear hB1 c0 c1 c2 r0 r1 r2 r3 r4 HI zJ
 by_cases hx:x∈tl
 ·obtain⟨k,hk,hkx,hki,-⟩:=idx_in7 hx
  have ew:IntKind.i64.wrap (tr.Zk tl x+1)=((k+1:Nat):Int):=by rw[hki];exact IntWalk.i64_in _ (by have:=HM2.out;omega)
  rw[ew]
  obtain⟨k1,hk1⟩:∃k1,k1=k+1:=⟨_,rfl⟩
  rw[← hk1]
  have e3:((k1:Int) == 0)=false:=by rw[beq_eq_false_iff_ne];omega
  have e4:IntKind.i64.wrap ((k1:Int)+1)=((k1:Int)+1):=IntWalk.i64_in _ (by have:=HM2.out;omega)
  by_cases hlt:k1+1<m
  ·have e5:((k1:Int)+1<(m:Int)):=by omega
   have HP:=Lib.hid (show tr.Ye n x tl= .err 11 from by unfold tr.Ye;rw[if_pos hx,hki,Int.toNat_natCast,if_pos (by have:=HM2.out;omega)])
   clear hx hk hkx hki ew hk1 hlt
   go_wp2_with fail
   go_ret2
   rw[HP.out]
   exact⟨by decide,HB1.out,rfl⟩
  ·have e5:¬((k1:Int)+1<(m:Int)):=by omega
   have HP:=Lib.hid (show tr.Ye n x tl= .make n (x :: tl.take k) from by unfold tr.Ye;rw[if_pos hx,hki,Int.toNat_natCast,if_neg (by have:=HM2.out;omega)])
   have htk:qz w1 (.slice (some ⟨b,off,none⟩) k1 vc) (x :: tl.take k):=by
    have h:=UJ (HR.out.below HB1.out) (k:=k1) (by simp;omega)
    rw[hk1,List.take_succ_cons]at h
    rw[hk1]
    exact h
   have HMD:=Lib.hid (show ∀X,Below w1.heap.size w1 X→Calls Tryz.prog 140 #[.string n,.slice (some ⟨b,off,none⟩) k1 vc] X fun e w'=>jd n (x :: tl.take k) X e w' from fun X hX=>
    made_any n (x :: tl.take k) (fun r hr=>HOK.out r (by
     rcases List.mem_cons.1 hr with h | h
     ·rw[h];simp
     ·exact List.mem_cons_of_mem _ (List.mem_of_mem_take h))) _ (KF htk (by simp)) X (htk.below hX))
   have e6:(0:Int)≤(k1:Int):=by omega
   have e7:k1≤vc:=by have:=HM2.out;omega
   have hMD:=HMD.out
   clear hx hk hkx hki ew hk1 hlt htk HMD
   have HAL1:=Lib.hid (show ∀X,Below w1.heap.size w1 X→Below w1.heap.size w1 X∧X.cell? ⟨t,3,none⟩=some (.slice (some ⟨b,off,none⟩) m vc)∧X.cell? ⟨t,1,none⟩=some (.string n) from fun X hX=>
    ⟨hX,(hX.cell (p:=⟨t,_,none⟩) (Nat.lt_of_lt_of_le htl HB1.out.size)).trans c3,(hX.cell (p:=⟨t,_,none⟩) (Nat.lt_of_lt_of_le htl HB1.out.size)).trans hc1⟩)
   have HMX:=Lib.hid (show ∀X,Below w1.heap.size w1 X→Calls Tryz.prog 140 #[.string n,.slice (some ⟨b,off,none⟩) k1 vc] X fun e w'=>jd n (x :: tl.take k) X e w' from fun X hX=>hMD X hX)
   go_upto_region 6 with fail
   go_region_held3 (fun X=>Below w1.heap.size w1 X∧X.cell? ⟨t,3,none⟩=some (.slice (some ⟨b,off,none⟩) m vc)∧X.cell? ⟨t,1,none⟩=some (.string n))
    (first | assumption | exact HAL1.out _ (Below.refl _ _).drew | (go_split_ands;exact HAL1.out _ (by assumption)))
    (first | (go_at_call 140;(with_reducible refine(HMX.out _ (by go_split_ands;assumption)).mono ?_);intro e wX hpp;obtain⟨hbX,r1,r2,rfl,hpp⟩:=hpp.two;go_split_ands;have Jb:=Below.trans (B:=w1.heap.size) (a:=w1) (by assumption) (hbX.mono (Below.size (by assumption)));have hbX3:=hbX))
   all_goals (go_wp2_with fail;go_ret2;rw[HP.out];exact⟨HB1.out.trans (Jb.mono HB1.out.size),hpp.2⟩)
 ·have hni:tr.Zk tl x= -1:=by unfold tr.Zk;exact df.Ky fun j hj=>decide_eq_false fun h=>hx (h ▸ List.getElem_mem hj)
  rw[hni]
  have HP:=Lib.hid (show tr.Ye n x tl= .err 10 from by unfold tr.Ye;rw[if_neg hx])
  have ew:IntKind.i64.wrap (-1+1)=0:=rfl
  rw[ew]
  clear hx hni ew
  go_wp2_with fail
  go_ret2
  rw[HP.out]
  exact⟨by decide,HB1.out,rfl⟩
end Go.Proofs.YtpcmilhjpmlbpaaGreatDoor
namespace Go.Proofs.YtpcmilhjpmlbpaaGreatDoor
open Go.RowKit Go.Shelf nm od
theorem VV (l:List Rec):∀(m:Nat),(qx l).drop (m*5)=qx (l.drop m):=by
 induction l with
 | nil=>intro m;simp[qx]
 | cons a t ih=>
   intro m
   cases m with
   | zero=>rfl
   | succ m=>
     have e:qx (a :: t)= .string a.owner :: .int .i64 a.typ :: .int .i64 a.cls :: .int .i64 a.ttl :: .string a.data :: qx t:=rfl
     rw[e,show(m+1)*5=m*5+1+1+1+1+1 by omega]
     simp only[List.drop_succ_cons]
     rw[ih m]
theorem recsC_cat (a b:List Rec):qx (a ++ b)=qx a ++ qx b:=by unfold qx;exact List.flatMap_append
theorem own_setRun {w:World}{base g n cap k:Nat}{l:List Rec}(h:w.ownsRow base 80 5 (.slice (some ⟨g,0,none⟩) n cap) n (qx l))(m:List Rec)(hk:k+m.length≤n):
 (w.setCells g (k*5) (qx m)).ownsRow base 80 5 (.slice (some ⟨g,0,none⟩) n cap) n (qx (l.take k ++ m ++ l.drop (k+m.length)))∧w.grownBy (w.setCells g (k*5) (qx m)) (some g):=by
 have hml:(qx l).length=n*5:=h.1
 have hln:l.length=n:=by rw[zK]at hml;omega
 have hm5:(qx m).length=m.length*5:=zK m
 rcases h.2 with⟨h0,_⟩|⟨g',cap',cur,hv,hb,hg,hn,hc,hz,hx⟩
 ·cases h0
 ·simp only[Value.slice.injEq,Option.some.injEq,Addr.mk.injEq,and_true,true_and]at hv
  obtain⟨rfl,rfl⟩:=hv
  have hnc:n*5≤cap*5:=Nat.mul_le_mul_right _ hn
  obtain⟨cur',h1,h2,h3,h4⟩:=Ji g 80 (qx m) (k*5) cur w hg (by rw[hm5,hz];omega)
  have hcl:cur.toList.length=cap*5:=by rw[Array.length_toList,hz]
  refine⟨⟨by rw[zK];simp;omega,.inr ⟨g,cap,cur',rfl,hb,h1,hn,hc,by rw[h2,hz],?_⟩⟩,h4⟩
  have e1:cur.toList.take (k*5)=qx (l.take k):=by
   rw[← VU,← hx,List.take_take,Nat.min_eq_left (by omega)]
  have e2:(cur.toList.drop (k*5+(qx m).length)).take (n*5-(k*5+m.length*5))=qx (l.drop (k+m.length)):=by
   rw[← VV,← hx,hm5,List.drop_take,Nat.add_mul]
  rw[h3,recsC_cat,recsC_cat,e1]
  rw[List.take_append,List.take_of_length_le (by rw[List.length_append,zK,hm5,List.length_take];omega),← e2]
  congr 2
  rw[List.length_append,zK,hm5,List.length_take]
  omega
theorem erase_is (l:List Rec)(k:Nat)(hk:k<l.length):l.take k ++ l.drop (k+1) ++ l.drop (k+(l.drop (k+1)).length)=l.eraseIdx k ++ [l[l.length-1]'(by omega)]:=by
 rw[List.eraseIdx_eq_take_drop_succ]
 congr 1
 rw[List.length_drop,show k+(l.length-(k+1))=l.length-1 by omega]
 exact(List.drop_eq_getElem_cons (by omega)).trans (by rw[List.drop_of_length_le (by omega)])
theorem delete_any (l:List Rec)(hl:l.length≤1000000000000)(k:Nat)(hk:k<l.length)(base b cap:Nat)(w:World)(hown:w.ownsRow base 80 5 (.slice (some ⟨b,0,none⟩) l.length cap) l.length (qx l)):
 Calls Tryz.prog 139 #[.slice (some ⟨b,0,none⟩) l.length cap,.int .i64 (k:Int),.int .i64 ((k+1:Nat):Int)] w fun e w'=>
  e= .returned (.slice (some ⟨b,0,none⟩) (l.length-1) cap)∧w.grownBy w' (some b)∧w'.ownsRow base 80 5 (.slice (some ⟨b,0,none⟩) (l.length-1) cap) (l.length-1) (qx (l.eraseIdx k)):=by
 obtain⟨i0_r,hi_r,hz_r,UW,Xv⟩:=info_parts uY
 have hcap:l.length≤cap:=by
  rcases hown.2 with⟨h0,_⟩|⟨_,_,_,hv,_,_,hn,_⟩
  ·cases h0
  ·simp only[Value.slice.injEq,Option.some.injEq,Addr.mk.injEq,and_true,true_and]at hv
   obtain⟨rfl,rfl⟩:=hv
   exact hn
 obtain⟨n,hn⟩:∃n,n=l.length:=⟨_,rfl⟩
 obtain⟨k1,hk1⟩:∃k1,k1=k+1:=⟨_,rfl⟩
 obtain⟨n1,hn1⟩:∃n1,n1=n-1:=⟨_,rfl⟩
 rw[← hn,← hk1]
 rw[← hn]at hown hcap hl hk
 have hml:(qx l).length=n*5:=hown.1
 have hdl:(l.drop k1).length=n-k1:=by rw[List.length_drop,hn]
 have hm5:(qx (l.drop k1)).length=(n-k1)*5:=by rw[zK,hdl]
 obtain⟨hset,hgs⟩:=own_setRun (w:=w.drew) (show w.drew.ownsRow base 80 5 (.slice (some ⟨b,0,none⟩) n cap) n (qx l) from hown) (l.drop k1) (k:=k) (by rw[hdl];omega)
 rw[hk1,erase_is l k (by omega),← hk1]at hset
 obtain⟨z,hz⟩:∃z,z=l[l.length-1]'(by omega):=⟨_,rfl⟩
 rw[← hz]at hset
 clear hz
 have hnews:∀(A:Addr),(k1<n→A=⟨b,k1*5,none⟩)→∀j u,(qx (l.drop k1))[j]? =some u→w.drew.cell? (A.add j)=some u:=fun A hA j u hj=>by
  have hjl:j<(n-k1)*5:=by rw[← hm5];exact(List.getElem?_eq_some_iff.1 hj).1
  rw[hA (by omega),Addr.add_lit]
  show w.cell? _=_
  rw[hown.cellAt (k1*5+j) (by have:=Nat.mul_le_mul_right 5 (show k1≤n by omega);rw[Nat.sub_mul]at hjl;omega),← hj,← VV,List.getElem?_drop]
 have hspare:∀j,j<(qx (l.drop k1)).length→(w.drew.cell? ⟨b,0+k*5+j,none⟩).isSome=true∧w.drew.frozen? ⟨b,0+k*5+j,none⟩=false:=fun j hj=>by
  rw[hm5]at hj
  have h1:=Nat.mul_le_mul_right 5 (show k1≤n by omega)
  rw[Nat.sub_mul]at hj
  have hlt:k*5+j<n*5:=by omega
  refine⟨?_,hown.frozenAt _⟩
  show(w.cell? _).isSome=true
  rw[Nat.zero_add,hown.cellAt (k*5+j) hlt,List.getElem?_eq_getElem (by rw[hml];exact hlt)]
  rfl
 have s1:=Lib.hid (show(qx (l.drop k1)).length=(n-k1)*5 from hm5)
 have s2:=Lib.hid (Zf (l.drop k1))
 have HNEWS:=Lib.hid hnews;have HSPARE:=Lib.hid hspare;have HSET:=Lib.hid hset;have HGS:=Lib.hid hgs;have HOWN:=Lib.hid hown
 have HI:=Lib.hid hi_r;have HZ1:=Lib.hid UW
 have HN:=Lib.hid hn;have HK1:=Lib.hid hk1;have HN1:=Lib.hid hn1
 have ne1:((k:Int) == (k1:Int))=false:=by rw[beq_eq_false_iff_ne];omega
 have hk1':k1≤n:=by omega
 have hkk:k<k1:=by omega
 have b1:(k:Int)≤(k1:Int):=by omega
 have b2:(k1:Int)≤(n:Int):=by omega
 have b3:(n:Int)≤(cap:Int):=by omega
 have b4:(k:Int)≤(cap:Int):=by omega
 have b5:(k1:Int)≤(cap:Int):=by omega
 have b6:(0:Int)≤(k:Int):=by omega
 have b7:(0:Int)≤(k1:Int):=by omega
 clear hnews hspare hset hgs hown hi_r UW hz_r Xv hml hdl hm5 hn hk1 hn1
 go_enter Tryz.func139,Tryz.ntmps139
 go_upto_region 5 with fail
 by_cases hcc:cap=k1
 ·have hc2:(k1:Int)=(cap:Int):=by omega
  have hkn:¬k1<n:=by omega
  have HKN:=Lib.hid hkn
  have HCC:=Lib.hid hcc
  have hcn:cap≤n:=by omega
  have s0:=Lib.hid (show(qx (l.drop k1)).length=0*5 from by have:=s1.out;omega)
  clear hcc hkn
  go_region_law (refine step_append_room rfl (.tmp 22) (.tmp 25) 31 rfl 80 i0_r 5 Tryz.underlying31 HI.out HZ1.out b 0 k cap (by simp[Act.eval,Act.put]) ⟨b,0,none⟩ 0 0 (qx (l.drop k1)) (by simp[Act.eval,Act.put]) s0.out (HNEWS.out _ (fun h=>absurd h HKN.out)) s2.out (by omega) HSPARE.out ?_)
  obtain rfl:n1=k:=by have:=HN1.out;have:=HK1.out;have:=HCC.out;omega
  obtain⟨W1,hW1⟩:∃W,W=w.drew.setCells b (n1*5) (qx (l.drop k1)):=⟨_,rfl⟩
  have hset:=HSET.out
  rw[← hW1]at hset ⊢
  obtain⟨hcl,hos,hgc⟩:=Ud hset (i:=n1) (by have:=HN1.out;omega)
  have hgd:w.grownBy w.drew (some b):=⟨rfl,rfl,rfl,Nat.le_refl _,fun _ _ _=>rfl⟩
  have hgw:w.grownBy (W1.setCells b (n1*5) (qx (List.replicate (n-n1) uF))) (some b):=(hgd.trans (by have h:=HGS.out;rw[← hW1]at h;exact h)).trans hgc
  have hel:(l.eraseIdx n1 ++ [z]).take n1=l.eraseIdx n1:=by
   have:(l.eraseIdx n1).length=n1:=by rw[List.length_eraseIdx,if_pos (by have:=HN.out;omega)];have:=HN1.out;have:=HN.out;omega
   exact(congrArg (fun m=>(l.eraseIdx n1 ++ [z]).take m) this.symm).trans List.take_left
  rw[hel]at hos
  have HW1:=Lib.hid hW1
  have c1:(n1:Int)≤(n:Int):=by have:=HN1.out;omega
  have c2:(0:Int)≤(n1:Int):=by omega
  have c3:(n1:Int)≤(cap:Int):=by omega
  have c4:¬(n1:Int)=(cap:Int):=by have:=HN1.out;omega
  have c5:¬cap=n1:=by have:=HN1.out;omega
  have c6:n1<n:=by have:=HN1.out;omega
  have HOS:=Lib.hid hos;have HGW:=Lib.hid hgw
  clear hset hos hgw hgc hgd hW1 hel
  go_wp2_with fail
  go_ret
  have en:n-1=n1:=HN1.out.symm
  rw[en]
  exact⟨rfl,HGW.out,HOS.out⟩
 ·have hc2:¬(k1:Int)=(cap:Int):=by omega
  have hc4:((k1:Int) == (cap:Int))=false:=by rw[beq_eq_false_iff_ne];omega
  go_region_law (refine step_append_room rfl (.tmp 22) (.tmp 25) 31 rfl 80 i0_r 5 Tryz.underlying31 HI.out HZ1.out b 0 k cap (by simp[Act.eval,Act.put]) ⟨b,k1*5,none⟩ (n-k1) (cap-k1) (qx (l.drop k1)) (by simp[Act.eval,Act.put]) s1.out (HNEWS.out _ (fun _=>rfl)) s2.out (by omega) HSPARE.out ?_)
  have e:k+(n-k1)=n1:=by have:=HN1.out;have:=HK1.out;omega
  rw[e]
  obtain⟨W1,hW1⟩:∃W,W=w.drew.setCells b (k*5) (qx (l.drop k1)):=⟨_,rfl⟩
  have hset:=HSET.out
  rw[← hW1]at hset ⊢
  obtain⟨hcl,hos,hgc⟩:=Ud hset (i:=n1) (by have:=HN1.out;omega)
  have hgd:w.grownBy w.drew (some b):=⟨rfl,rfl,rfl,Nat.le_refl _,fun _ _ _=>rfl⟩
  have hgw:w.grownBy (W1.setCells b (n1*5) (qx (List.replicate (n-n1) uF))) (some b):=(hgd.trans (by have h:=HGS.out;rw[← hW1]at h;exact h)).trans hgc
  have hel:(l.eraseIdx k ++ [z]).take n1=l.eraseIdx k:=by
   have:(l.eraseIdx k).length=n1:=by rw[List.length_eraseIdx,if_pos (by have:=HN.out;omega)];have:=HN1.out;have:=HN.out;omega
   exact(congrArg (fun m=>(l.eraseIdx k ++ [z]).take m) this.symm).trans List.take_left
  rw[hel]at hos
  have HW1:=Lib.hid hW1
  have c1:(n1:Int)≤(n:Int):=by have:=HN1.out;omega
  have c2:(0:Int)≤(n1:Int):=by omega
  have c3:(n1:Int)≤(cap:Int):=by omega
  have c4:¬(n1:Int)=(cap:Int):=by have:=HN1.out;omega
  have c5:¬cap=n1:=by have:=HN1.out;omega
  have c6:n1<n:=by have:=HN1.out;omega
  have HOS:=Lib.hid hos;have HGW:=Lib.hid hgw
  clear hset hos hgw hgc hgd hW1 hel e
  go_wp2_with fail
  go_ret
  have en:n-1=n1:=HN1.out.symm
  rw[en]
  exact⟨rfl,HGW.out,HOS.out⟩
end Go.Proofs.YtpcmilhjpmlbpaaGreatDoor
namespace Go.Proofs.YtpcmilhjpmlbpaaGreatDoor
open Go.RowKit Go.Shelf nm od
namespace tr
theorem soa_only {z:Zn}(hv:Ok z){x:Rec}(hx:x∈z.l)(h6:x.typ=6):x=q9 z:=by
 have h1:x∈zn.qE z.l (qw z.ap,6):=zn.jI.2 ⟨hx,(Kw hv hx).1 h6⟩
 rw[(yz hv).1]at h1
 exact List.mem_singleton.1 h1
theorem soa_idx {z:Zn}(hv:Ok z):∃k:Nat,∃hk:k<z.l.length,df.idx (fun r=>decide (r.typ=6)) z.l=(k:Int)∧z.l[k]=q9 z∧z.l.eraseIdx k=q8 z.l:=by
 have hs:=yz hv
 unfold df.idx
 cases e:z.l.findIdx? (fun r=>decide (r.typ=6)) with
 | none=>
   have:=List.findIdx?_eq_none_iff.1 e _ hs.2.1
   rw[hs.2.2.1]at this
   simp at this
 | some k=>
   obtain⟨hk,h1,h2⟩:=List.findIdx?_eq_some_iff_getElem.1 e
   have hx:z.l[k]=q9 z:=soa_only hv (List.getElem_mem hk) (of_decide_eq_true h1)
   refine⟨k,hk,rfl,hx,?_⟩
   have hnd:=zn.uG hv
   have hs':z.l=z.l.take k ++ z.l[k] :: z.l.drop (k+1):=by rw[List.getElem_cons_drop,List.take_append_drop]
   have e1:(z.l.take k).filter (fun r=>!decide (r.typ=6))=z.l.take k:=List.filter_eq_self.2 fun y hy=>by
    obtain⟨j,hj,rfl⟩:=List.getElem_of_mem hy
    rw[List.length_take]at hj
    have:=h2 j (by omega)
    rw[List.getElem_take]
    simpa using this
   have e2:(z.l.drop (k+1)).filter (fun r=>!decide (r.typ=6))=z.l.drop (k+1):=List.filter_eq_self.2 fun y hy=>by
    by_cases h6:y.typ=6
    ·exfalso
     have hy2:y=z.l[k]:=(soa_only hv (List.mem_of_mem_drop hy) h6).trans hx.symm
     rw[hs']at hnd
     have:=(List.nodup_append.1 hnd).2.1
     exact(List.nodup_cons.1 this).1 (hy2 ▸ hy)
    ·simp[h6]
   have e3:q8 (z.l.take k ++ z.l[k] :: z.l.drop (k+1))=z.l.take k ++ z.l.drop (k+1):=by
    unfold q8
    rw[List.filter_append,List.filter_cons,if_neg (by simp[of_decide_eq_true h1]),e1,e2]
   rw[List.eraseIdx_eq_take_drop_succ]
   rw[← hs']at e3
   exact e3.symm
theorem YU {Z:Zn}{x:Rec}{tl:List Rec}{c:Int}{l:List Rec}(h:yY x (q9 Z,false,q8 Z.l) tl=(c,l))(hc:c≠0):ui Z x tl= .err c:=by
 unfold ui
 rw[h]
 exact if_neg hc
theorem steps_make {Z:Zn}{x:Rec}{tl:List Rec}{l:List Rec}(h:yY x (q9 Z,false,q8 Z.l) tl=(0,l)):ui Z x tl= .make Z.ap l:=by
 unfold ui
 rw[h]
 exact if_pos rfl
end tr
theorem Vi:∀args w,(callFunc 138 args).run Tryz.prog w= .ok (.enter 138 args) w:=fun _ _=>by kernel_rfl
theorem steps1_any (r:Rec)(w:World):Calls Tryz.prog 138 #[yA r] w fun e w'=>e= .returned (.bool (decide (r.typ=6)))∧Below w.heap.size w w':=by
 obtain⟨wa,hwa⟩:∃W,W=w.alloc (.cells (recC r).toArray 80):=⟨_,rfl⟩
 obtain⟨hBa,hsa,hxa⟩:=zw w wa r hwa
 obtain⟨bx,hbx⟩:∃b,b=w.heap.size:=⟨_,rfl⟩
 rw[← hbx]at hxa
 obtain⟨x0,x1,x2,x3,x4⟩:=id hxa
 have HB:=Lib.hid hBa;have HWA:=Lib.hid hwa;have HBX:=Lib.hid hbx
 clear hwa hBa hsa hbx hxa
 obtain⟨t,ht⟩:∃t,t=decide (r.typ=6):=⟨_,rfl⟩
 have hb:(r.typ == 6)=t:=by rw[ht];exact Bool.beq_eq_decide_eq ..
 rw[← ht]
 clear ht
 go_enter Tryz.func138,Tryz.ntmps138
 go_upto_region 1 with fail
 rw[← HWA.out,← HBX.out]
 go_wp2_with fail
 go_ret
 exact⟨rfl,HB.out⟩
theorem U3 (l:List Rec)(hl:l.length≤1000000000)(k k1:Nat)(hk:k<l.length)(hk1:k1=k+1)(base:Nat)(v:Value)(w:World)(hown:w.ownsRow base 80 5 v l.length (qx l)):
 Calls Tryz.prog 139 #[v,.int .i64 (k:Int),.int .i64 (k1:Int)] w fun e w'=>
  ∃v',e= .returned v'∧v'.ownBlock=v.ownBlock∧w.grownBy w' v.ownBlock∧w'.ownsRow base 80 5 v' (l.eraseIdx k).length (qx (l.eraseIdx k)):=by
 obtain⟨gb,cap',rfl,_,hgb⟩:=hown.form (by omega)
 subst hk1
 refine(delete_any l (by omega) k hk base gb cap' w hown).mono ?_
 rintro e w' ⟨rfl,h1,h2⟩
 refine⟨_,rfl,rfl,h1,?_⟩
 rw[List.length_eraseIdx,if_pos hk]
 exact h2
end Go.Proofs.YtpcmilhjpmlbpaaGreatDoor
