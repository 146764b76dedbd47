import Derived.Test.YtpcmilhjpmlbpaaGreatDoorQTrU
import Derived.Test.YtpcmilhjpmlbpaaGreatDoorQTrV
import Derived.Test.YtpcmilhjpmlbpaaGreatDoorQTrN
import Derived.Test.YtpcmilhjpmlbpaaGreatDoorQCpC
namespace Go.Proofs.YtpcmilhjpmlbpaaGreatDoor
open Go.RowKit Go.Shelf nm od
namespace tr
inductive Out where
 | err (c:Int)
 | same
 | make (ap:ByteArray) (l:List Rec)
def YY (ap:ByteArray)(x:Rec)(t:List Rec):Out:=if x∈t then(if(Q9 t x).toNat+1<t.length then .err 11 else .make ap (x :: t.take (Q9 t x).toNat)) else .err 10
def uP (Z:Zn)(x:Rec)(t:List Rec):Out:=if(jw x (ze Z,false,qP Z.l) t).1=0 then .make Z.ap (jw x (ze Z,false,qP Z.l) t).2 else .err (jw x (ze Z,false,qP Z.l) t).1
def Q0 (Z:Option Zn)(name:ByteArray):List Rec→Out
 | []=>.err 15
 | x :: t=>if x.typ≠6∨x.data.size=0∨qF x.owner name=false then .err 15
   else match Z with
    | some A=>if t.length=0 then(if zR (up.QI x.data) (yA A)=false then .same else .err 10) else if(t.headD noRec).typ=6 then uP A x t else YY name x t
    | none=>if t.length=0 then .err 10 else YY name x t
def Ju (q a:Msg):Bool:=!(wi.jE a.h a.qs a.an a.au a.ad && a.h.Um && decide (a.h.id=q.h.id) && decide (a.h.op=0) && decide (a.qs=q.qs) && decide (a.au.length=0))
def zP (Z:Option Zn)(q:Msg):Bool:=match q.qs with
 | [n]=>decide (q.h=hdI q.h.id) && decide (n.cls=1) && decide (q.an.length=0) && decide (q.ad.length=0) && decide (0≤q.h.id∧q.h.id≤65535) &&
   (if n.typ=252 then qo n.name && decide (q.au.length=0) else match Z with
    | some A=>decide (n.typ=251∧n.name=A.ap∧q.au= [ze A])
    | none=>false)
 | _=>false
def nameQ (q:Msg):Qn:=match q.qs with
 | n :: _=>n
 | []=>⟨ByteArray.empty,0,0⟩
def rowsOf (xs:List Msg):List Rec:=xs.flatMap (·.an)
def uf (Z:Option Zn)(q:Msg)(xs:List Msg):Out:=
 if zP Z q=false then .err 8 else if xs.length=0 then .err 10 else if xs.any (Ju q)=true then .err 8 else if xs.any (fun a=>!decide (a.h.jq=0))=true then .err 28
 else Q0 (if(nameQ q).typ=251 then Z else none) (nameQ q).name (rowsOf xs)
def QL (n:ByteArray)(t id:Int)(au:List Rec):Msg:=⟨hdI id,[⟨n,t,1⟩],[],au,[]⟩
section
variable {n:ByteArray}{x:Rec}{t:List Rec}{A:Zn}
theorem Ui (h:¬(x.typ≠6∨x.data.size=0∨qF x.owner n=false)):Q0 none n (x :: t)=if t.length=0 then .err 10 else YY n x t:=if_neg h
theorem Qh (h:¬(x.typ≠6∨x.data.size=0∨qF x.owner n=false)):Q0 (some A) n (x :: t)=if t.length=0 then(if zR (up.QI x.data) (yA A)=false then .same else .err 10) else if(t.headD noRec).typ=6 then uP A x t else YY n x t:=if_neg h
theorem row_soa {Z:Option Zn}(h:x.typ≠6∨x.data.size=0∨qF x.owner n=false):Q0 Z n (x :: t)= .err 15:=if_pos h
end
theorem KH (a:Int):zR a a=false:=by
 unfold zR up.zR;rw[Int.sub_self];simp
theorem parts_flat (l:List Rec):∀k,(jg l k).flatten=l.take (k*16)
 | 0=>by simp[jg]
 | k+1=>by
   rw[parts_next,List.flatten_append,parts_flat l k,Nat.add_mul,Nat.one_mul,List.take_add];simp[jF]
theorem rows_rowM (h:Hd)(qs:List Qn):∀P:List (List Rec),rowsOf (Q3 h qs P)=P.flatten
 | []=>rfl
 | p :: P=>by
   have:=rows_rowM h qs P;unfold rowsOf Q3 at this ⊢;rw[List.map_cons,List.flatMap_cons,this,List.flatten_cons]
theorem vg {z:Zn}(hv:Ok z){x:Rec}(hx:x∈z.l):wi.qR x=true:=by
 obtain⟨h1,h2,_⟩:=hv.each x hx;unfold zn.jV at h2;simp only[Bool.not_eq_false',Bool.and_eq_true,decide_eq_true_eq]at h2;obtain⟨⟨⟨⟨_,hc⟩,ht0⟩,ht1⟩,hd⟩:=h2;have hh:dt.yH x.typ=true:=by
  cases e:dt.yH x.typ
  ·unfold dt.jd at hd;rw[if_neg (by rw[e];simp)]at hd;cases hd
  ·rfl
 unfold dt.yH at hh;simp only[Bool.and_eq_true,Bool.or_eq_true,decide_eq_true_eq]at hh;rw[wi.rest h1 (decide_eq_true ⟨by omega,by omega⟩) (decide_eq_true ⟨by omega,by omega⟩) (decide_eq_true ⟨by omega,by omega⟩) hh.1.2,hd];simp
structure KV (H:List Zn):Prop where
 ne:0<H.length
 ok:∀i,i<H.length→Ok (q8 H i)
 fold:∀i,i<H.length→qx (q8 H i).ap=qx (qN H).ap
theorem KV.last {H:List Zn}(h:KV H):Ok (qN H):=h.ok _ (by have:=h.ne;omega)
theorem mem_whole {z:Zn}(hv:Ok z){x:Rec}(hx:x∈zX z):x∈z.l:=by
 unfold zX at hx;simp only[List.mem_cons,List.mem_append,List.not_mem_nil,or_false]at hx;rcases hx with h | h | h
 ·rw[h];exact(yM hv).2.1
 ·exact(uz.1 h).1
 ·rw[h];exact(yM hv).2.1
theorem mem_piece {a b:Zn}(ha:Ok a)(hb:Ok b){x:Rec}(hx:x∈ZK a b):x∈a.l∨x∈b.l:=by
 unfold ZK at hx;simp only[List.mem_append,List.mem_singleton]at hx;rcases hx with((h | h) | h) | h
 ·rw[h];exact .inl (yM ha).2.1
 ·exact .inl (uz.1 (vX.1 h).1).1
 ·rw[h];exact .inr (yM hb).2.1
 ·exact .inr (uz.1 (vX.1 h).1).1
theorem steps_right {H:List Zn}(hH:KV H){f:Nat}(hf:f<H.length){x:Rec}(hx:x∈zF H f):wi.qR x=true:=by
 have hl:=vg hH.last (yM hH.last).2.1;unfold zF at hx;simp only[List.mem_append,List.mem_singleton]at hx;rcases hx with(h | h) | h
 ·rw[h];exact hl
 ·unfold zI at h;obtain⟨i,hi,hm⟩:=List.mem_flatMap.1 h;have h1:=List.mem_range.1 hi;rcases mem_piece (hH.ok (f+i) (by omega)) (hH.ok (f+i+1) (by omega)) hm with h | h
  ·exact vg (hH.ok (f+i) (by omega)) h
  ·exact vg (hH.ok (f+i+1) (by omega)) h
 ·rw[h];exact hl
theorem VJ {z:Zn}(hv:Ok z){x:Rec}(hx:x∈zX z):wi.qR x=true:=vg hv (mem_whole hv hx)
theorem UI {H:List Zn}{n:ByteArray}{t id:Int}{au row:List Rec}(hid:0≤id∧id≤65535)(ht:0≤t∧t≤65535)(hn:qo n=true)(hau:au.length≤1)(hur:∀x∈au,wi.qR x=true)
 (hr:zL H 0 [⟨n,t,1⟩] au=(row,0)) (hrow:∀x∈row,wi.qR x=true) (hne:row≠[]) {Z:Option Zn} (hask:zP Z (QL n t id au)=true):
 (uV H (QL n t id au)).length=vW row∧(∀m∈uV H (QL n t id au),0<m.an.length∧m.an.length≤16)∧
  ∀k,k≤vW row→uf Z (QL n t id au) ((uV H (QL n t id au)).take k)=if k=0 then .err 10 else Q0 (if t=251 then Z else none) n (row.take (k*16)):=by
 have hq:wi.qnB ⟨n,t,1⟩=true:=by
  unfold wi.qnB;simp only[hn,Bool.true_and,Bool.and_eq_true];exact⟨decide_eq_true ht,decide_eq_true ⟨by omega,by omega⟩⟩
 have hm:wi.jE (hdI id) [⟨n,t,1⟩] [] au []=true:=by
  unfold wi.jE wi.hdB wi.lenB;simp only[Bool.and_eq_true,List.all_cons,List.all_nil,hq,Bool.and_true];exact⟨⟨⟨⟨decide_eq_true hid,decide_eq_true ⟨by simp,by simp⟩⟩,decide_eq_true ⟨by simp,by simp⟩⟩,decide_eq_true ⟨by simp,by simp,by omega,by simp⟩⟩,List.all_eq_true.2 hur⟩
 have hA:uV H (QL n t id au)=Q3 (hdA (hdI id) true 0) [⟨n,t,1⟩] (jg row (vW row)):=by
  unfold uV QL;simp only;rw[if_neg (by rw[hm];simp),hr];rfl
 have hpm:∀i,∀x∈jF row i,wi.qR x=true:=fun i x hx=>hrow x (by unfold jF at hx;exact List.mem_of_mem_drop (List.mem_of_mem_take hx));obtain⟨p1,p2,p3⟩:=partN_in hne;refine⟨by rw[hA];unfold Q3;rw[List.length_map,Yc],fun m hmm=>?_,fun k hk=>?_⟩
 ·rw[hA]at hmm;unfold Q3 jg at hmm;rw[List.map_map]at hmm;obtain⟨i,hi,rfl⟩:=List.mem_map.1 hmm;have hi2:=List.mem_range.1 hi;simp only[Function.comp];unfold jF;rw[List.length_take,List.length_drop];omega
 ·have hT:(uV H (QL n t id au)).take k=Q3 (hdA (hdI id) true 0) [⟨n,t,1⟩] (jg row k):=by
   rw[hA];unfold Q3 jg;rw[← List.map_take,← List.map_take,List.take_range,Nat.min_eq_left hk]
  have hlen:(Q3 (hdA (hdI id) true 0) [⟨n,t,1⟩] (jg row k)).length=k:=by unfold Q3;rw[List.length_map,Yc]
  rw[hT];unfold uf;rw[if_neg (by rw[hask];simp),hlen];by_cases h0:k=0
  ·rw[if_pos h0,if_pos h0]
  ·rw[if_neg h0,if_neg h0];have hmem:∀m∈Q3 (hdA (hdI id) true 0) [⟨n,t,1⟩] (jg row k),∃i,m=⟨hdA (hdI id) true 0,[⟨n,t,1⟩],jF row i,[],[]⟩:=fun m hm=>by
    unfold Q3 jg at hm;rw[List.map_map]at hm;obtain⟨i,_,rfl⟩:=List.mem_map.1 hm;exact⟨i,rfl⟩
   rw[if_neg,if_neg]
   ·rw[rows_rowM,parts_flat];rfl
   ·rw[List.any_eq_true];rintro⟨m,hm,h1⟩;obtain⟨i,rfl⟩:=hmem m hm;simp at h1
   ·rw[List.any_eq_true];rintro⟨m,hm,h1⟩;obtain⟨i,rfl⟩:=hmem m hm;have hmb:wi.jE (hdA (hdI id) true 0) [⟨n,t,1⟩] (jF row i) [] []=true:=by
     unfold wi.jE wi.hdB wi.lenB;simp only[Bool.and_eq_true,List.all_cons,List.all_nil,hq,Bool.and_true];exact⟨⟨⟨⟨decide_eq_true hid,decide_eq_true ⟨by simp,by simp⟩⟩,decide_eq_true ⟨by simp,by simp⟩⟩,decide_eq_true ⟨by simp,by have:=Jb row i;omega,by simp,by simp⟩⟩,List.all_eq_true.2 (hpm i)⟩
    unfold Ju QL at h1;simp only at h1;rw[hmb]at h1;simp at h1
theorem soa_data {z:Zn}(hv:Ok z):(ze z).data.size≠0:=by have:=(QX hv).1;omega
theorem XU {z:Zn}(hv:Ok z){n:ByteArray}(hn:qo n=true)(h:qx n=qx z.ap):qF (ze z).owner n=true:=by
 obtain⟨_,h2,h3,_⟩:=yM hv;obtain⟨_,h4,_⟩:=zn.vG hv.rules;have h5:=(zn.Zv.1 h4).2 _ h2 h3;rw[zn.V9 (hv.named _ h2) hn hv.ap h];exact h5
theorem QZ {z:Zn}(hv:Ok z){n:ByteArray}(hn:qo n=true)(h:qx n=qx z.ap):¬((ze z).typ≠6∨(ze z).data.size=0∨qF (ze z).owner n=false):=by
 rintro(h1 | h1 | h1)
 ·exact h1 (yM hv).2.2.1
 ·exact soa_data hv h1
 ·rw[XU hv hn h]at h1;cases h1
theorem soa_not {z:Zn}(hv:Ok z):ze z∉qP z.l:=fun h=>(uz.1 h).2 (yM hv).2.2.1
theorem rest_some {z:Zn}(hv:Ok z):qP z.l≠[]:=by
 obtain⟨_,_,_,h4,_⟩:=zn.vG hv.rules;intro h;apply h4
 match e:zn.qI z.l (qx z.ap,2) with
 | []=>rfl
 | r :: t=>
   have hm:r∈zn.qI z.l (qx z.ap,2):=by rw[e];simp
   obtain⟨h1,h2⟩:=zn.ko.1 hm;have h3:r.typ=2:=congrArg Prod.snd h2;have:r∈qP z.l:=uz.2 ⟨h1,by omega⟩;rw[h]at this
   cases this
theorem all_whole {z:Zn}(hv:Ok z)(n:ByteArray):YY n (ze z) (qP z.l ++ [ze z])= .make n (ze z :: qP z.l):=by
 have hi:Q9 (qP z.l ++ [ze z]) (ze z)=((qP z.l).length:Int):=by
  unfold Q9;refine df.Uy (by simp) (fun j hj hlt=>?_) (by simp);rw[List.getElem_append_left hlt];exact decide_eq_false fun e=>soa_not hv (e ▸ List.getElem_mem hlt)
 unfold YY;rw[if_pos (by simp),hi,Int.toNat_natCast,if_neg (by simp),List.take_left]
theorem all_part {z:Zn}(hv:Ok z)(n:ByteArray){j:Nat}(hj:j≤(qP z.l).length):YY n (ze z) ((qP z.l ++ [ze z]).take j)= .err 10:=by
 unfold YY;rw[if_neg];rw[List.take_append_of_le_length hj];exact fun h=>soa_not hv (List.mem_of_mem_take h)
theorem head_take {t:List Rec}{j:Nat}(hj:0<j):(t.take j).headD noRec=t.headD noRec:=by
 match t,j,hj with
 | [],j,_=>rw[List.take_nil]
 | x :: t,j+1,_=>rfl
theorem head_rest {z:Zn}(hv:Ok z):((qP z.l ++ [ze z]).headD noRec).typ≠6:=by
 match e:qP z.l with
 | []=>exact absurd e (rest_some hv)
 | r :: t=>
   have:r∈qP z.l:=by rw[e];simp
   exact(uz.1 this).2
theorem Uj {z:Zn}(hv:Ok z){n:ByteArray}(hn:qo n=true)(h:qx n=qx z.ap)(Z:Option Zn):Q0 Z n (zX z)= .make n (ze z :: qP z.l):=by
 unfold zX
 cases Z with
 | none=>rw[Ui (QZ hv hn h),if_neg (by simp),all_whole hv]
 | some A=>rw[Qh (QZ hv hn h),if_neg (by simp),if_neg (head_rest hv),all_whole hv]
theorem row_part {z:Zn}(hv:Ok z){n:ByteArray}(hn:qo n=true)(h:qx n=qx z.ap)(Z:Option Zn){j:Nat}(hj:1<j)(hl:j<(zX z).length):Q0 Z n ((zX z).take j)= .err 10:=by
 obtain⟨i,rfl⟩:∃i,j=i+1:=⟨j-1,by omega⟩;rw[ZW]at hl;unfold zX;rw[List.take_succ_cons];have h1:((qP z.l ++ [ze z]).take i).length≠0:=by rw[List.length_take,List.length_append,List.length_singleton];omega
 cases Z with
 | none=>rw[Ui (QZ hv hn h),if_neg h1,all_part hv n (by omega)]
 | some A=>rw[Qh (QZ hv hn h),if_neg h1,if_neg (by rw[head_take (by omega)];exact head_rest hv),all_part hv n (by omega)]
theorem newer_ne {a b:Int}(h:zR a b=true):a≠b:=fun e=>by rw[e,KH]at h;cases h
theorem X8 {H:List Zn}(h:ve H=true){k j:Nat}(hk:k<H.length)(hj:j<k):zR (yA (q8 H k)) (yA (q8 H j))=true:=by
 cases e:zR (yA (q8 H k)) (yA (q8 H j))
 ·rw[risen_bad hk hj e]at h;cases h
 ·rfl
theorem soa_ne {H:List Zn}(hr:ve H=true){f:Nat}(hf:f+1<H.length):ze (q8 H f)≠ze (qN H):=fun e=>by
 have h:=newer_ne (X8 hr (k:=H.length-1) (j:=f) (by omega) (by omega));apply h;unfold yA;rw[e];rfl
theorem XT {H:List Zn}{f n:Nat}(hn:0<n):((zI H f n ++ [ze (qN H)]).headD noRec)=ze (q8 H f):=by
 obtain⟨m,rfl⟩:∃m,n=m+1:=⟨n-1,by omega⟩;unfold zI;rw[List.range_succ_eq_map,List.flatMap_cons];rfl
theorem len_steps (H:List Zn)(f:Nat):(zF H f).length=(zI H f (H.length-1-f)).length+2:=by unfold zF;simp
theorem steps_full {H:List Zn}(hH:KV H)(hr:ve H=true){f:Nat}(hf:f+1<H.length):∃l',Q0 (some (q8 H f)) (q8 H f).ap (zF H f)= .make (q8 H f).ap (l' ++ [ze (qN H)])∧(l' ++ [ze (qN H)]).Perm (qN H).l:=by
 obtain⟨n,hn⟩:∃n,n=H.length-1-f:=⟨_,rfl⟩;obtain⟨l',e1,n1,m1⟩:=go_steps hH.ok (first:=ze (qN H)) f n (by omega) fun i hi=>soa_ne hr (by omega);have hfn:q8 H (f+n)=qN H:=by unfold qN;congr 1;omega
 rw[hfn]at e1 m1;refine⟨l',?_,perm_back hH.last n1 m1⟩;have hA:=hH.ok f (by omega);have hrun:jw (ze (qN H)) (ze (q8 H f),false,qP (q8 H f).l) (zI H f n ++ [ze (qN H)])=(0,l' ++ [ze (qN H)]):=by
  rw[run_go e1];exact run_end (yM hH.last).2.2.1 rfl rfl rfl
 unfold zF;rw[← hn,List.append_assoc,List.singleton_append];rw[Qh (QZ hH.last hA.ap (hH.fold f (by omega))),if_neg (by simp),if_pos (by rw[XT (by omega)];exact(yM hA).2.2.1)];unfold uP;rw[hrun];simp
theorem steps_part {H:List Zn}(hH:KV H)(hr:ve H=true){f:Nat}(hf:f+1<H.length){j:Nat}(hj:1<j)(hl:j<(zF H f).length):Q0 (some (q8 H f)) (q8 H f).ap ((zF H f).take j)= .err 10:=by
 obtain⟨i,rfl⟩:∃i,j=i+1:=⟨j-1,by omega⟩;rw[len_steps]at hl;obtain⟨n,hn⟩:∃n,n=H.length-1-f:=⟨_,rfl⟩;rw[← hn]at hl;obtain⟨l',e1,-,-⟩:=go_steps hH.ok (first:=ze (qN H)) f n (by omega) fun i hi=>soa_ne hr (by omega);have hA:=hH.ok f (by omega);obtain⟨s2,e2⟩:=go_take i e1;have ht:(zI H f n ++ [ze (qN H)]).take i=(zI H f n).take i:=List.take_append_of_le_length (by omega);have hrun:jw (ze (qN H)) (ze (q8 H f),false,qP (q8 H f).l) ((zI H f n ++ [ze (qN H)]).take i)=(10,[]):=by
  rw[ht,← List.append_nil ((zI H f n).take i),run_go e2,run_nil]
 unfold zF;rw[← hn,List.append_assoc,List.singleton_append,List.take_succ_cons];rw[Qh (QZ hH.last hA.ap (hH.fold f (by omega))),if_neg (by rw[List.length_take,List.length_append,List.length_singleton];omega),if_pos (by rw[head_take (by omega),XT (by omega)];exact(yM hA).2.2.1)];unfold uP;rw[hrun];simp
def Yx (H:List Zn)(Z:Option Zn)(q:Msg):Prop:=0<(uV H q).length∧(uV H q).length≤130∧(∀m∈uV H q,0<m.an.length∧m.an.length≤16)∧(∀k,k<(uV H q).length→∃c,c≠0∧uf Z q ((uV H q).take k)= .err c)∧
 ((uf Z q (uV H q)= .same∧Z=some (qN H))∨∃ap l,uf Z q (uV H q)= .make ap l∧l.Perm (qN H).l∧qo ap=true∧qx ap=qx (qN H).ap)
theorem XL {H:List Zn}{n:ByteArray}{t id:Int}{au row:List Rec}{Z:Option Zn}(hlen:row.length≤2002)(hne:row≠[])(h1:(uV H (QL n t id au)).length=vW row)(h2:∀m∈uV H (QL n t id au),0<m.an.length∧m.an.length≤16)
 (h3:∀k,k≤vW row→uf Z (QL n t id au) ((uV H (QL n t id au)).take k)=if k=0 then .err 10 else Q0 (if t=251 then Z else none) n (row.take (k*16)))
 (h4:∀j,1<j→j<row.length→Q0 (if t=251 then Z else none) n (row.take j)= .err 10)
 (h5:(Q0 (if t=251 then Z else none) n row= .same∧Z=some (qN H))∨∃ap l,Q0 (if t=251 then Z else none) n row= .make ap l∧l.Perm (qN H).l∧qo ap=true∧qx ap=qx (qN H).ap):Yx H Z (QL n t id au):=by
 obtain⟨p1,p2,p3⟩:=partN_in hne;have hfull:uf Z (QL n t id au) (uV H (QL n t id au))=Q0 (if t=251 then Z else none) n row:=by
  have:=h3 (vW row) (Nat.le_refl _);rw[List.take_of_length_le (by omega),if_neg (by omega),List.take_of_length_le (by omega)]at this;exact this
 refine⟨by omega,by omega,h2,fun k hk=>⟨10,by decide,?_⟩,by rw[hfull];exact h5⟩;rw[h3 k (by omega)];by_cases h0:k=0
 ·rw[if_pos h0]
 ·rw[if_neg h0];exact h4 _ (by omega) (by omega)
theorem copy_none {H:List Zn}(hH:KV H){id:Int}(hid:0≤id∧id≤65535):Yx H none (QL (qN H).ap 252 id []):=by
 have hv:=hH.last;have hsm:=hv.small;have hwl:=ZW (qN H);have hrl:=jc hv;have hrow:zL H 0 [⟨(qN H).ap,252,1⟩] []=(zX (qN H),0):=Va rfl ⟨rfl,(zn.zM hv.ap hv.ap).2 rfl⟩ rfl;have hask:zP none (QL (qN H).ap 252 id [])=true:=by
  unfold zP QL;simp[hv.ap,hid,hdI]
 have hne:zX (qN H)≠[]:=by unfold zX;simp
 obtain⟨h1,h2,h3⟩:=UI (Z:=none) hid (by omega) hv.ap (by simp) (fun x hx=>by cases hx) hrow (fun x hx=>VJ hv hx) hne hask;exact XL (by omega) hne h1 h2 h3 (fun j h4 h5=>row_part hv hv.ap rfl _ h4 h5) (.inr ⟨_,_,Uj hv hv.ap rfl _,perm_front hv,hv.ap,rfl⟩)
theorem copy_some {H:List Zn}(hH:KV H)(hr:ve H=true){id:Int}(hid:0≤id∧id≤65535){f:Nat}(hf:f<H.length):Yx H (some (q8 H f)) (QL (q8 H f).ap 251 id [ze (q8 H f)]):=by
 have hv:=hH.last;have hA:=hH.ok f hf;have hsm:=hv.small;have hwl:=ZW (qN H);have hrl:=jc hv;have hfo:=hH.fold f hf;have hs:=yM hA;have hask:zP (some (q8 H f)) (QL (q8 H f).ap 251 id [ze (q8 H f)])=true:=by
  unfold zP QL;simp[hid,hdI]
 have hur:∀x∈[ze (q8 H f)],wi.qR x=true:=fun x hx=>by rw[List.mem_singleton.1 hx];exact vg hA hs.2.1
 have hrw:zL H 0 [⟨(q8 H f).ap,251,1⟩] [ze (q8 H f)]=J4 H (yA (q8 H f)):=by
  rw[row_step rfl ⟨rfl,(zn.zM hA.ap hv.ap).2 hfo⟩ rfl hs.2.2.1 (soa_data hA),ser_num hA]
 by_cases hl:f+1<H.length
 ·have hnew:=X8 hr (k:=H.length-1) (j:=f) (by omega) (by omega);have hfr:frI H (yA (q8 H f)) H.length=(f:Int):=fr_at rfl _ hf fun i h1 h2=>newer_ne (X8 hr h2 h1);by_cases hst:(zF H f).length≤(zX (qN H)).length
  ·have hrow:zL H 0 [⟨(q8 H f).ap,251,1⟩] [ze (q8 H f)]=(zF H f,0):=by
    rw[hrw];unfold J4;rw[if_neg (by unfold qN;rw[hnew];simp),hfr,Int.toNat_natCast,if_pos ⟨by omega,hst⟩]
   have hne:zF H f≠[]:=by unfold zF;simp
   obtain⟨h1,h2,h3⟩:=UI (Z:=some (q8 H f)) hid (by omega) hA.ap (by simp) hur hrow (fun x hx=>steps_right hH hf hx) hne hask;obtain⟨l',h4,h5⟩:=steps_full hH hr hl;exact XL (by omega) hne h1 h2 h3 (fun j h6 h7=>steps_part hH hr hl h6 h7) (.inr ⟨_,_,h4,h5,hA.ap,hfo⟩)
  ·have hrow:zL H 0 [⟨(q8 H f).ap,251,1⟩] [ze (q8 H f)]=(zX (qN H),0):=by
    rw[hrw];unfold J4;rw[if_neg (by unfold qN;rw[hnew];simp),hfr,Int.toNat_natCast,if_neg (fun h=>hst h.2)]
   have hne:zX (qN H)≠[]:=by unfold zX;simp
   obtain⟨h1,h2,h3⟩:=UI (Z:=some (q8 H f)) hid (by omega) hA.ap (by simp) hur hrow (fun x hx=>VJ hv hx) hne hask;exact XL (by omega) hne h1 h2 h3 (fun j h4 h5=>row_part hv hA.ap hfo _ h4 h5) (.inr ⟨_,_,Uj hv hA.ap hfo _,perm_front hv,hA.ap,hfo⟩)
 ·have hfl:q8 H f=qN H:=by unfold qN;congr 1;omega
  have hrow:zL H 0 [⟨(q8 H f).ap,251,1⟩] [ze (q8 H f)]=([ze (qN H)],0):=by
   rw[hrw];unfold J4;rw[hfl,KH,if_pos rfl]
  obtain⟨h1,h2,h3⟩:=UI (Z:=some (q8 H f)) hid (by omega) hA.ap (by simp) hur hrow (fun x hx=>by rw[List.mem_singleton.1 hx];exact vg hv (yM hv).2.1) (by simp) hask;refine XL (by simp) (by simp) h1 h2 h3 (fun j h4 h5=>by simp at h5;omega) (.inl ⟨?_,by rw[hfl]⟩);rw[if_pos rfl];rw[Qh (QZ hv hA.ap hfo),if_pos (by rfl),← ser_num hv,hfl,KH,if_pos (by rfl)]
end tr
end Go.Proofs.YtpcmilhjpmlbpaaGreatDoor
