import Derived.Test.YtpcmilhjpmlbpaaGreatDoorQTrU
import Derived.Test.YtpcmilhjpmlbpaaGreatDoorQTrV
import Derived.Test.YtpcmilhjpmlbpaaGreatDoorQTrN
import Derived.Test.YtpcmilhjpmlbpaaGreatDoorQCpC
namespace Go.Proofs.YtpcmilhjpmlbpaaGreatDoor
open Go.RowKit Go.Shelf nm od
namespace tr
inductive Out where
 | err (c:Int)
 | same
 | make (ap:ByteArray) (l:List Rec)
def Zt (ap:ByteArray)(x:Rec)(t:List Rec):Out:=if x∈t then(if(xx t x).toNat+1<t.length then .err 11 else .make ap (x :: t.take (xx t x).toNat)) else .err 10
def jw (Z:Zn)(x:Rec)(t:List Rec):Out:=if(jc x (qZ Z,false,q9 Z.l) t).1=0 then .make Z.ap (jc x (qZ Z,false,q9 Z.l) t).2 else .err (jc x (qZ Z,false,q9 Z.l) t).1
def QO (Z:Option Zn)(name:ByteArray):List Rec->Out
 | []=>.err 15
 | x :: t=>if x.typ≠6\/x.data.size=0\/qG x.owner name=false then .err 15
   else match Z with
    | some A=>if t.length=0 then(if zU (up.QQ x.data) (yD A)=false then .same else .err 10) else if(t.headD Js).typ=6 then jw A x t else Zt name x t
    | none=>if t.length=0 then .err 10 else Zt name x t
def xH (q a:Msg):Bool:=!(wi.jL a.h a.qs a.an a.au a.ad && a.h.KW && decide (a.h.id=q.h.id) && decide (a.h.op=0) && decide (a.qs=q.qs) && decide (a.au.length=0))
def zA (Z:Option Zn)(q:Msg):Bool:=match q.qs with
 | [n]=>decide (q.h=hdI q.h.id) && decide (n.cls=1) && decide (q.an.length=0) && decide (q.ad.length=0) && decide (0<=q.h.id/\q.h.id<=65535) &&
   (if n.typ=252 then qo n.name && decide (q.au.length=0) else match Z with
    | some A=>decide (n.typ=251/\n.name=A.ap/\q.au= [qZ A])
    | none=>false)
 | _=>false
def Xf (q:Msg):Qn:=match q.qs with
 | n :: _=>n
 | []=>⟨ByteArray.empty,0,0⟩
def rowsOf (xs:List Msg):List Rec:=xs.flatMap (·.an)
def jf (Z:Option Zn)(q:Msg)(xs:List Msg):Out:=
 if zA Z q=false then .err 8 else if xs.length=0 then .err 10 else if xs.any (xH q)=true then .err 8 else if xs.any (λa=>!decide (a.h.yL=0))=true then .err 28
 else QO (if(Xf q).typ=251 then Z else none) (Xf q).name (rowsOf xs)
def QT (n:ByteArray)(t id:Int)(au:List Rec):Msg:=⟨hdI id,[⟨n,t,1⟩],[],au,[]⟩
section
variable {n:ByteArray}{x:Rec}{t:List Rec}{A:Zn}
theorem Yl (h:¬(x.typ≠6\/x.data.size=0\/qG x.owner n=false)):QO none n (x :: t)=if t.length=0 then .err 10 else Zt n x t:=if_neg h
theorem uz (h:¬(x.typ≠6\/x.data.size=0\/qG x.owner n=false)):QO (some A) n (x :: t)=if t.length=0 then(if zU (up.QQ x.data) (yD A)=false then .same else .err 10) else if(t.headD Js).typ=6 then jw A x t else Zt n x t:=if_neg h
theorem row_soa {Z:Option Zn}(h:x.typ≠6\/x.data.size=0\/qG x.owner n=false):QO Z n (x :: t)= .err 15:=if_pos h
end
theorem K3 (a:Int):zU a a=false:=by
 unfold zU up.zU;rw[Int.sub_self];simp
theorem parts_flat (l:List Rec):∀k,(kK l k).flatten=l.take (k*16)
 | 0=>by simp[kK]
 | k+1=>by
   rw[parts_next,List.flatten_append,parts_flat l k,Nat.add_mul,Nat.one_mul,List.take_add];simp[uh]
theorem rows_rowM (h:Hd)(qs:List Qn):∀P:List (List Rec),rowsOf (YP h qs P)=P.flatten
 | []=>rfl
 | p :: P=>by
   have:=rows_rowM h qs P;unfold rowsOf YP at this ⊢;rw[List.map_cons,List.flatMap_cons,this,List.flatten_cons]
theorem vw {z:Zn}(hv:Ok z){x:Rec}(hx:x∈z.l):wi.qP x=true:=by
 obtain⟨h1,h2,_⟩:=hv.each x hx;unfold zn.jT at h2;simp only[Bool.not_eq_false',gX,H7]at h2;obtain⟨⟨⟨⟨_,hc⟩,ht0⟩,ht1⟩,hd⟩:=h2;have hh:dt.yH x.typ=true:=by
  cases e:dt.yH x.typ
  ·unfold dt.jh at hd;rw[if_neg (by rw[e];simp)]at hd;cases hd
  ·rfl
 unfold dt.yH at hh;simp only[gX,Bool.or_eq_true,H7]at hh;rw[wi.rest h1 (gF ⟨by omega,by omega⟩) (gF ⟨by omega,by omega⟩) (gF ⟨by omega,by omega⟩) hh.1.2,hd];simp
structure Uj (H:List Zn):Prop where
 ne:0<H.length
 ok:∀i,i<H.length->Ok (zh H i)
 fold:∀i,i<H.length->qy (zh H i).ap=qy (qR H).ap
theorem Uj.last {H:List Zn}(h:Uj H):Ok (qR H):=h.ok _ (by have:=h.ne;omega)
theorem mem_whole {z:Zn}(hv:Ok z){x:Rec}(hx:x∈yK z):x∈z.l:=by
 unfold yK at hx;simp only[List.mem_cons,Hl,List.not_mem_nil,or_false]at hx;rcases hx with h | h | h
 ·rw[h];exact(yx hv).2.1
 ·exact(kS.1 h).1
 ·rw[h];exact(yx hv).2.1
theorem mem_piece {a b:Zn}(ha:Ok a)(hb:Ok b){x:Rec}(hx:x∈YT a b):x∈a.l\/x∈b.l:=by
 unfold YT at hx;simp only[Hl,gY]at hx;rcases hx with((h | h) | h) | h
 ·rw[h];exact .inl (yx ha).2.1
 ·exact .inl (kS.1 (xh.1 h).1).1
 ·rw[h];exact .inr (yx hb).2.1
 ·exact .inr (kS.1 (xh.1 h).1).1
theorem steps_right {H:List Zn}(hH:Uj H){f:Nat}(hf:f<H.length){x:Rec}(hx:x∈yY H f):wi.qP x=true:=by
 have hl:=vw hH.last (yx hH.last).2.1;unfold yY at hx;simp only[Hl,gY]at hx;rcases hx with(h | h) | h
 ·rw[h];exact hl
 ·unfold jb at h;obtain⟨i,hi,hm⟩:=List.mem_flatMap.1 h;have h1:=List.mem_range.1 hi;rcases mem_piece (hH.ok (f+i) (by omega)) (hH.ok (f+i+1) (by omega)) hm with h | h
  ·exact vw (hH.ok (f+i) (by omega)) h
  ·exact vw (hH.ok (f+i+1) (by omega)) h
 ·rw[h];exact hl
theorem VY {z:Zn}(hv:Ok z){x:Rec}(hx:x∈yK z):wi.qP x=true:=vw hv (mem_whole hv hx)
theorem U7 {H:List Zn}{n:ByteArray}{t id:Int}{au row:List Rec}(hid:0<=id/\id<=65535)(ht:0<=t/\t<=65535)(hn:qo n=true)(hau:au.length<=1)(hur:∀x∈au,wi.qP x=true)
 (hr:yS H 0 [⟨n,t,1⟩] au=(row,0)) (hrow:∀x∈row,wi.qP x=true) (hne:row≠[]) {Z:Option Zn} (hask:zA Z (QT n t id au)=true):
 (QG H (QT n t id au)).length=Yp row/\(∀m∈QG H (QT n t id au),0<m.an.length/\m.an.length<=16)/\
  ∀k,k<=Yp row->jf Z (QT n t id au) ((QG H (QT n t id au)).take k)=if k=0 then .err 10 else QO (if t=251 then Z else none) n (row.take (k*16)):=by
 have hq:wi.qnB ⟨n,t,1⟩=true:=by
  unfold wi.qnB;simp only[hn,Bool.true_and,gX];exact⟨gF ht,gF ⟨by omega,by omega⟩⟩
 have hm:wi.jL (hdI id) [⟨n,t,1⟩] [] au []=true:=by
  unfold wi.jL wi.hdB wi.lenB;simp only[gX,List.all_cons,List.all_nil,hq,Bool.and_true];exact⟨⟨⟨⟨gF hid,gF ⟨by simp,by simp⟩⟩,gF ⟨by simp,by simp⟩⟩,gF ⟨by simp,by simp,by omega,by simp⟩⟩,List.all_eq_true.2 hur⟩
 have hA:QG H (QT n t id au)=YP (hdA (hdI id) true 0) [⟨n,t,1⟩] (kK row (Yp row)):=by
  unfold QG QT;simp only;rw[if_neg (by rw[hm];simp),hr];rfl
 have hpm:∀i,∀x∈uh row i,wi.qP x=true:=λi x hx=>hrow x (by unfold uh at hx;exact List.mem_of_mem_drop (List.mem_of_mem_take hx));obtain⟨p1,p2,p3⟩:=partN_in hne;refine⟨by rw[hA];unfold YP;rw[List.length_map,VB],λm hmm=>?_,λk hk=>?_⟩
 ·rw[hA]at hmm;unfold YP kK at hmm;rw[List.map_map]at hmm;obtain⟨i,hi,rfl⟩:=List.mem_map.1 hmm;have hi2:=List.mem_range.1 hi;simp only[Function.comp];unfold uh;rw[List.length_take,He];omega
 ·have hT:(QG H (QT n t id au)).take k=YP (hdA (hdI id) true 0) [⟨n,t,1⟩] (kK row k):=by
   rw[hA];unfold YP kK;rw[<- List.map_take,<- List.map_take,List.take_range,Nat.min_eq_left hk]
  have hlen:(YP (hdA (hdI id) true 0) [⟨n,t,1⟩] (kK row k)).length=k:=by unfold YP;rw[List.length_map,VB]
  rw[hT];unfold jf;rw[if_neg (by rw[hask];simp),hlen];by_cases h0:k=0
  ·rw[if_pos h0,if_pos h0]
  ·rw[if_neg h0,if_neg h0]
   have hmem:∀m∈YP (hdA (hdI id) true 0) [⟨n,t,1⟩] (kK row k),∃i,m=⟨hdA (hdI id) true 0,[⟨n,t,1⟩],uh row i,[],[]⟩:=λm hm=>by
    unfold YP kK at hm;rw[List.map_map]at hm;obtain⟨i,_,rfl⟩:=List.mem_map.1 hm;exact⟨i,rfl⟩
   rw[if_neg,if_neg]
   ·rw[rows_rowM,parts_flat];rfl
   ·rw[List.any_eq_true];rintro⟨m,hm,h1⟩;obtain⟨i,rfl⟩:=hmem m hm;simp at h1
   ·rw[List.any_eq_true];rintro⟨m,hm,h1⟩;obtain⟨i,rfl⟩:=hmem m hm;have hmb:wi.jL (hdA (hdI id) true 0) [⟨n,t,1⟩] (uh row i) [] []=true:=by
     unfold wi.jL wi.hdB wi.lenB;simp only[gX,List.all_cons,List.all_nil,hq,Bool.and_true];exact⟨⟨⟨⟨gF hid,gF ⟨by simp,by simp⟩⟩,gF ⟨by simp,by simp⟩⟩,gF ⟨by simp,by have:=part_len row i;omega,by simp,by simp⟩⟩,List.all_eq_true.2 (hpm i)⟩
    unfold xH QT at h1;simp only at h1;rw[hmb]at h1;simp at h1
theorem soa_data {z:Zn}(hv:Ok z):(qZ z).data.size≠0:=by have:=(Q8 hv).1;omega
theorem X4 {z:Zn}(hv:Ok z){n:ByteArray}(hn:qo n=true)(h:qy n=qy z.ap):qG (qZ z).owner n=true:=by
 obtain⟨_,h2,h3,_⟩:=yx hv;obtain⟨_,h4,_⟩:=zn.vK hv.rules;have h5:=(zn.ZA.1 h4).2 _ h2 h3;rw[zn.Xn (hv.named _ h2) hn hv.ap h];exact h5
theorem Za {z:Zn}(hv:Ok z){n:ByteArray}(hn:qo n=true)(h:qy n=qy z.ap):¬((qZ z).typ≠6\/(qZ z).data.size=0\/qG (qZ z).owner n=false):=by
 rintro(h1 | h1 | h1)
 ·exact h1 (yx hv).2.2.1
 ·exact soa_data hv h1
 ·rw[X4 hv hn h]at h1;cases h1
theorem soa_not {z:Zn}(hv:Ok z):qZ z∉q9 z.l:=λh=>(kS.1 h).2 (yx hv).2.2.1
theorem rest_some {z:Zn}(hv:Ok z):q9 z.l≠[]:=by
 obtain⟨_,_,_,h4,_⟩:=zn.vK hv.rules;intro h;apply h4
 match e:zn.qJ z.l (qy z.ap,2) with
 | []=>rfl
 | r :: t=>
   have hm:r∈zn.qJ z.l (qy z.ap,2):=by rw[e];simp
   obtain⟨h1,h2⟩:=zn.kD.1 hm;have h3:r.typ=2:=congrArg Prod.snd h2;have:r∈q9 z.l:=kS.2 ⟨h1,by omega⟩;rw[h]at this
   cases this
theorem all_whole {z:Zn}(hv:Ok z)(n:ByteArray):Zt n (qZ z) (q9 z.l ++ [qZ z])= .make n (qZ z :: q9 z.l):=by
 have hi:xx (q9 z.l ++ [qZ z]) (qZ z)=((q9 z.l).length:Int):=by
  unfold xx;refine df.UT (by simp) (λj hj hlt=>?_) (by simp);rw[List.getElem_append_left hlt];exact gp λe=>soa_not hv (e ▸ Ht hlt)
 unfold Zt;rw[if_pos (by simp),hi,Int.toNat_natCast,if_neg (by simp),List.take_left]
theorem all_part {z:Zn}(hv:Ok z)(n:ByteArray){j:Nat}(hj:j<=(q9 z.l).length):Zt n (qZ z) ((q9 z.l ++ [qZ z]).take j)= .err 10:=by
 unfold Zt;rw[if_neg];rw[List.take_append_of_le_length hj];exact λh=>soa_not hv (List.mem_of_mem_take h)
theorem head_take {t:List Rec}{j:Nat}(hj:0<j):(t.take j).headD Js=t.headD Js:=by
 match t,j,hj with
 | [],j,_=>rw[List.take_nil]
 | x :: t,j+1,_=>rfl
theorem head_rest {z:Zn}(hv:Ok z):((q9 z.l ++ [qZ z]).headD Js).typ≠6:=by
 match e:q9 z.l with
 | []=>exact absurd e (rest_some hv)
 | r :: t=>
   have:r∈q9 z.l:=by rw[e];simp
   exact(kS.1 this).2
theorem UB {z:Zn}(hv:Ok z){n:ByteArray}(hn:qo n=true)(h:qy n=qy z.ap)(Z:Option Zn):QO Z n (yK z)= .make n (qZ z :: q9 z.l):=by
 unfold yK
 cases Z with
 | none=>rw[Yl (Za hv hn h),if_neg (by simp),all_whole hv]
 | some A=>rw[uz (Za hv hn h),if_neg (by simp),if_neg (head_rest hv),all_whole hv]
theorem row_part {z:Zn}(hv:Ok z){n:ByteArray}(hn:qo n=true)(h:qy n=qy z.ap)(Z:Option Zn){j:Nat}(hj:1<j)(hl:j<(yK z).length):QO Z n ((yK z).take j)= .err 10:=by
 obtain⟨i,rfl⟩:∃i,j=i+1:=⟨j-1,by omega⟩;rw[Z6]at hl;unfold yK;rw[List.take_succ_cons];have h1:((q9 z.l ++ [qZ z]).take i).length≠0:=by rw[List.length_take,gK,gT];omega
 cases Z with
 | none=>rw[Yl (Za hv hn h),if_neg h1,all_part hv n (by omega)]
 | some A=>rw[uz (Za hv hn h),if_neg h1,if_neg (by rw[head_take (by omega)];exact head_rest hv),all_part hv n (by omega)]
theorem newer_ne {a b:Int}(h:zU a b=true):a≠b:=λe=>by rw[e,K3]at h;cases h
theorem risen_of {H:List Zn}(h:vo H=true){k j:Nat}(hk:k<H.length)(hj:j<k):zU (yD (zh H k)) (yD (zh H j))=true:=by
 cases e:zU (yD (zh H k)) (yD (zh H j))
 ·rw[risen_bad hk hj e]at h;cases h
 ·rfl
theorem soa_ne {H:List Zn}(hr:vo H=true){f:Nat}(hf:f+1<H.length):qZ (zh H f)≠qZ (qR H):=λe=>by
 have h:=newer_ne (risen_of hr (k:=H.length-1) (j:=f) (by omega) (by omega));apply h;unfold yD;rw[e];rfl
theorem X3 {H:List Zn}{f n:Nat}(hn:0<n):((jb H f n ++ [qZ (qR H)]).headD Js)=qZ (zh H f):=by
 obtain⟨m,rfl⟩:∃m,n=m+1:=⟨n-1,by omega⟩;unfold jb;rw[List.range_succ_eq_map,List.flatMap_cons];rfl
theorem len_steps (H:List Zn)(f:Nat):(yY H f).length=(jb H f (H.length-1-f)).length+2:=by unfold yY;simp
theorem steps_full {H:List Zn}(hH:Uj H)(hr:vo H=true){f:Nat}(hf:f+1<H.length):∃l',QO (some (zh H f)) (zh H f).ap (yY H f)= .make (zh H f).ap (l' ++ [qZ (qR H)])/\(l' ++ [qZ (qR H)]).Perm (qR H).l:=by
 obtain⟨n,hn⟩:=yM (H.length-1-f);obtain⟨l',e1,n1,m1⟩:=go_steps hH.ok (first:=qZ (qR H)) f n (by omega) λi hi=>soa_ne hr (by omega);have hfn:zh H (f+n)=qR H:=by unfold qR;congr 1;omega
 rw[hfn]at e1 m1;refine⟨l',?_,perm_back hH.last n1 m1⟩;have hA:=hH.ok f (by omega);have hrun:jc (qZ (qR H)) (qZ (zh H f),false,q9 (zh H f).l) (jb H f n ++ [qZ (qR H)])=(0,l' ++ [qZ (qR H)]):=by
  rw[run_go e1];exact run_end (yx hH.last).2.2.1 rfl rfl rfl
 unfold yY;rw[<- hn,List.append_assoc,List.singleton_append];rw[uz (Za hH.last hA.ap (hH.fold f (by omega))),if_neg (by simp),if_pos (by rw[X3 (by omega)];exact(yx hA).2.2.1)];unfold jw;rw[hrun];simp
theorem steps_part {H:List Zn}(hH:Uj H)(hr:vo H=true){f:Nat}(hf:f+1<H.length){j:Nat}(hj:1<j)(hl:j<(yY H f).length):QO (some (zh H f)) (zh H f).ap ((yY H f).take j)= .err 10:=by
 obtain⟨i,rfl⟩:∃i,j=i+1:=⟨j-1,by omega⟩;rw[len_steps]at hl;obtain⟨n,hn⟩:=yM (H.length-1-f);rw[<- hn]at hl;obtain⟨l',e1,-,-⟩:=go_steps hH.ok (first:=qZ (qR H)) f n (by omega) λi hi=>soa_ne hr (by omega);have hA:=hH.ok f (by omega);obtain⟨s2,e2⟩:=go_take i e1;have ht:(jb H f n ++ [qZ (qR H)]).take i=(jb H f n).take i:=List.take_append_of_le_length (by omega);have hrun:jc (qZ (qR H)) (qZ (zh H f),false,q9 (zh H f).l) ((jb H f n ++ [qZ (qR H)]).take i)=(10,[]):=by
  rw[ht,<- List.append_nil ((jb H f n).take i),run_go e2,XP]
 unfold yY;rw[<- hn,List.append_assoc,List.singleton_append,List.take_succ_cons];rw[uz (Za hH.last hA.ap (hH.fold f (by omega))),if_neg (by rw[List.length_take,gK,gT];omega),if_pos (by rw[head_take (by omega),X3 (by omega)];exact(yx hA).2.2.1)];unfold jw;rw[hrun];simp
def YK (H:List Zn)(Z:Option Zn)(q:Msg):Prop:=0<(QG H q).length/\(QG H q).length<=130/\(∀m∈QG H q,0<m.an.length/\m.an.length<=16)/\(∀k,k<(QG H q).length->∃c,c≠0/\jf Z q ((QG H q).take k)= .err c)/\
 ((jf Z q (QG H q)= .same/\Z=some (qR H))\/∃ap l,jf Z q (QG H q)= .make ap l/\l.Perm (qR H).l/\qo ap=true/\qy ap=qy (qR H).ap)
theorem XU {H:List Zn}{n:ByteArray}{t id:Int}{au row:List Rec}{Z:Option Zn}(hlen:row.length<=2002)(hne:row≠[])(h1:(QG H (QT n t id au)).length=Yp row)(h2:∀m∈QG H (QT n t id au),0<m.an.length/\m.an.length<=16)
 (h3:∀k,k<=Yp row->jf Z (QT n t id au) ((QG H (QT n t id au)).take k)=if k=0 then .err 10 else QO (if t=251 then Z else none) n (row.take (k*16)))
 (h4:∀j,1<j->j<row.length->QO (if t=251 then Z else none) n (row.take j)= .err 10)
 (h5:(QO (if t=251 then Z else none) n row= .same/\Z=some (qR H))\/∃ap l,QO (if t=251 then Z else none) n row= .make ap l/\l.Perm (qR H).l/\qo ap=true/\qy ap=qy (qR H).ap):YK H Z (QT n t id au):=by
 obtain⟨p1,p2,p3⟩:=partN_in hne;have hfull:jf Z (QT n t id au) (QG H (QT n t id au))=QO (if t=251 then Z else none) n row:=by
  have:=h3 (Yp row) (gI _);rw[List.take_of_length_le (by omega),if_neg (by omega),List.take_of_length_le (by omega)]at this;exact this
 refine⟨by omega,by omega,h2,λk hk=>⟨10,by decide,?_⟩,by rw[hfull];exact h5⟩;rw[h3 k (by omega)];by_cases h0:k=0
 ·rw[if_pos h0]
 ·rw[if_neg h0];exact h4 _ (by omega) (by omega)
theorem copy_none {H:List Zn}(hH:Uj H){id:Int}(hid:0<=id/\id<=65535):YK H none (QT (qR H).ap 252 id []):=by
 have hv:=hH.last;have hsm:=hv.small;have hwl:=Z6 (qR H);have hrl:=uA hv;have hrow:yS H 0 [⟨(qR H).ap,252,1⟩] []=(yK (qR H),0):=row_whole rfl ⟨rfl,(zn.zP hv.ap hv.ap).2 rfl⟩ rfl;have hask:zA none (QT (qR H).ap 252 id [])=true:=by
  unfold zA QT;simp[hv.ap,hid,hdI]
 have hne:yK (qR H)≠[]:=by unfold yK;simp
 obtain⟨h1,h2,h3⟩:=U7 (Z:=none) hid (by omega) hv.ap (by simp) (λx hx=>by cases hx) hrow (λx hx=>VY hv hx) hne hask;exact XU (by omega) hne h1 h2 h3 (λj h4 h5=>row_part hv hv.ap rfl _ h4 h5) (.inr ⟨_,_,UB hv hv.ap rfl _,perm_front hv,hv.ap,rfl⟩)
theorem copy_some {H:List Zn}(hH:Uj H)(hr:vo H=true){id:Int}(hid:0<=id/\id<=65535){f:Nat}(hf:f<H.length):YK H (some (zh H f)) (QT (zh H f).ap 251 id [qZ (zh H f)]):=by
 have hv:=hH.last;have hA:=hH.ok f hf;have hsm:=hv.small;have hwl:=Z6 (qR H);have hrl:=uA hv;have hfo:=hH.fold f hf;have hs:=yx hA;have hask:zA (some (zh H f)) (QT (zh H f).ap 251 id [qZ (zh H f)])=true:=by
  unfold zA QT;simp[hid,hdI]
 have hur:∀x∈[qZ (zh H f)],wi.qP x=true:=λx hx=>by rw[List.mem_singleton.1 hx];exact vw hA hs.2.1
 have hrw:yS H 0 [⟨(zh H f).ap,251,1⟩] [qZ (zh H f)]=Vw H (yD (zh H f)):=by
  rw[row_step rfl ⟨rfl,(zn.zP hA.ap hv.ap).2 hfo⟩ rfl hs.2.2.1 (soa_data hA),ser_num hA]
 by_cases hl:f+1<H.length
 ·have hnew:=risen_of hr (k:=H.length-1) (j:=f) (by omega) (by omega);have hfr:frI H (yD (zh H f)) H.length=(f:Int):=fr_at rfl _ hf λi h1 h2=>newer_ne (risen_of hr h2 h1);by_cases hst:(yY H f).length<=(yK (qR H)).length
  ·have hrow:yS H 0 [⟨(zh H f).ap,251,1⟩] [qZ (zh H f)]=(yY H f,0):=by
    rw[hrw];unfold Vw;rw[if_neg (by unfold qR;rw[hnew];simp),hfr,Int.toNat_natCast,if_pos ⟨by omega,hst⟩]
   have hne:yY H f≠[]:=by unfold yY;simp
   obtain⟨h1,h2,h3⟩:=U7 (Z:=some (zh H f)) hid (by omega) hA.ap (by simp) hur hrow (λx hx=>steps_right hH hf hx) hne hask;obtain⟨l',h4,h5⟩:=steps_full hH hr hl;exact XU (by omega) hne h1 h2 h3 (λj h6 h7=>steps_part hH hr hl h6 h7) (.inr ⟨_,_,h4,h5,hA.ap,hfo⟩)
  ·have hrow:yS H 0 [⟨(zh H f).ap,251,1⟩] [qZ (zh H f)]=(yK (qR H),0):=by
    rw[hrw];unfold Vw;rw[if_neg (by unfold qR;rw[hnew];simp),hfr,Int.toNat_natCast,if_neg (λh=>hst h.2)]
   have hne:yK (qR H)≠[]:=by unfold yK;simp
   obtain⟨h1,h2,h3⟩:=U7 (Z:=some (zh H f)) hid (by omega) hA.ap (by simp) hur hrow (λx hx=>VY hv hx) hne hask;exact XU (by omega) hne h1 h2 h3 (λj h4 h5=>row_part hv hA.ap hfo _ h4 h5) (.inr ⟨_,_,UB hv hA.ap hfo _,perm_front hv,hA.ap,hfo⟩)
 ·have hfl:zh H f=qR H:=by unfold qR;congr 1;omega
  have hrow:yS H 0 [⟨(zh H f).ap,251,1⟩] [qZ (zh H f)]=([qZ (qR H)],0):=by
   rw[hrw];unfold Vw;rw[hfl,K3,if_pos rfl]
  obtain⟨h1,h2,h3⟩:=U7 (Z:=some (zh H f)) hid (by omega) hA.ap (by simp) hur hrow (λx hx=>by rw[List.mem_singleton.1 hx];exact vw hv (yx hv).2.1) (by simp) hask;refine XU (by simp) (by simp) h1 h2 h3 (λj h4 h5=>by simp at h5;omega) (.inl ⟨?_,by rw[hfl]⟩);rw[if_pos rfl];rw[uz (Za hv hA.ap hfo),if_pos (by rfl),<- ser_num hv,hfl,K3,if_pos (by rfl)]
end tr
end Go.Proofs.YtpcmilhjpmlbpaaGreatDoor
