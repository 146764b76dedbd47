import Derived.Test.YtpcmilhjpmlbpaaGreatDoorQTrJ
namespace Go.Proofs.YtpcmilhjpmlbpaaGreatDoor
open Go.RowKit Go.Shelf nm od
def Kg (R:List Rec×Int)(w:World)(e:Ending)(w':World):Prop:=∃v,e= .returned (.tuple #[v,.int .i64 R.2])/\Below w.heap.size w w'/\w'.ownsRow w.heap.size 80 5 v R.1.length (qw R.1)
theorem rowPost_some {R:List Rec×Int}{L:List Rec}{c:Int}{v:Value}{w w':World}(h:R=(L,c))(hB:Below w.heap.size w w')(ho:w'.ownsRow w.heap.size 80 5 v L.length (qw L)):Kg R w (.returned (.tuple #[v,.int .i64 c])) w':=by
 subst h;exact⟨_,rfl,hB,ho⟩
namespace tr
theorem msg_facts {h:Hd}{qs:List Qn}{an au ad:List Rec}(h1:wi.jL h qs an au ad=true):(∀q∈qs,qo q.name=true)/\∀x∈au,YH x/\(x.typ=6->x.data.size≠0->20<=x.data.size/\x.data.size<=65535):=by
 unfold wi.jL at h1;simp only[gX]at h1;refine⟨λq hq=>?_,λx hx=>?_⟩
 ·have h4:=List.all_eq_true.1 h1.1.1.1.2 q hq;unfold wi.qnB at h4;simp only[gX]at h4;exact h4.1.1
 ·have hr:=List.all_eq_true.1 h1.1.2 x hx;refine⟨right_ok hr,λh6 hne=>?_⟩;unfold wi.qP at hr;simp only[gX]at hr;obtain⟨_,h5⟩:=hr;rw[if_neg (by omega),Bool.or_eq_true]at h5;rcases h5 with h | h
  ·unfold wi.jR at h;simp only[gX,H7]at h;omega
  ·have:=of_decide_eq_true h;rw[h6]at this;exact dt.Q8 this
end tr
@[reducible] def hdA (h:Hd) (t:Bool) (c:Int):Hd:=⟨h.id,true,h.op,t,false,h.rd,false,false,h.cd,c⟩
namespace tr
def uh (l:List Rec)(i:Nat):List Rec:=(l.drop (i*16)).take 16
def Yp (l:List Rec):Nat:=max 1 ((l.length+15) / 16)
def YP (h:Hd)(qs:List Qn)(P:List (List Rec)):List Msg:=P.map λp=>⟨h,qs,p,[],[]⟩
def kK (l:List Rec)(n:Nat):List (List Rec):=(List.range n).map (uh l)
theorem parts_next (l:List Rec)(n:Nat):kK l (n+1)=kK l n ++ [uh l n]:=by
 unfold kK;rw[List.range_succ,List.map_append,List.map_singleton]
theorem VB (l:List Rec)(n:Nat):(kK l n).length=n:=by unfold kK;simp
theorem part_len (l:List Rec)(i:Nat):(uh l i).length<=16:=by unfold uh;rw[List.length_take];omega
def QG (H:List Zn)(M:Msg):List Msg:=if M.h.KW=true\/wi.jL M.h M.qs M.an M.au M.ad=false then [] else
 YP (hdA M.h ((yS H M.h.op M.qs M.au).2 == 0) (yS H M.h.op M.qs M.au).2) M.qs (kK (yS H M.h.op M.qs M.au).1 (Yp (yS H M.h.op M.qs M.au).1))
theorem Z6 (z:Zn):(yK z).length=(q9 z.l).length+2:=by unfold yK;simp
theorem rowS_facts (H:List Zn)(s:Int)(h:(qR H).l.length<=2000):(Vw H s).2=0/\(Vw H s).1≠[]/\(Vw H s).1.length<=2002:=by
 have h1:=Z6 (qR H);have h2:(q9 (qR H).l).length<=(qR H).l.length:=List.length_filter_le _ _;unfold Vw
 split
 ·exact⟨rfl,by simp,by simp⟩
 ·split
  ·rename_i hc
   refine⟨rfl,?_,by have:=hc.2;simp only;omega⟩;unfold yY;simp
  ·refine⟨rfl,?_,by simp only;omega⟩;unfold yK;simp
theorem rowA_facts (H:List Zn)(op:Int)(qs:List Qn)(au:List Rec)(h:(qR H).l.length<=2000):
 ((yS H op qs au).2=0/\(yS H op qs au).1≠[]/\(yS H op qs au).1.length<=2002)\/((yS H op qs au).2≠0/\(yS H op qs au).1= []):=by
 have h1:=Z6 (qR H);have h2:(q9 (qR H).l).length<=(qR H).l.length:=List.length_filter_le _ _;unfold yS
 split
 ·split
  ·exact .inr ⟨by decide,rfl⟩
  ·split
   ·exact .inr ⟨by decide,rfl⟩
   ·split
    ·exact .inl ⟨rfl,by unfold yK;simp,by simp only;omega⟩
    ·split
     ·exact .inr ⟨by decide,rfl⟩
     ·split
      ·split
       ·exact .inr ⟨by decide,rfl⟩
       ·exact .inl (rowS_facts H _ h)
      ·exact .inr ⟨by decide,rfl⟩
 ·exact .inr ⟨by decide,rfl⟩
theorem partN_in {l:List Rec}(h:l≠[]):l.length<=Yp l*16/\Yp l*16<l.length+16/\1<=Yp l:=by
 have:=List.length_pos_iff.2 h;unfold Yp;omega
end tr
def Kz (h:Hd)(P:List (Value×Value)):List Value:=P.flatMap λp=>yT h p.1 p.2 (.slice none 0 0) (.slice none 0 0)
theorem msgsC_app (h:Hd)(P:List (Value×Value))(p:Value×Value):Kz h (P ++ [p])=Kz h P ++ yT h p.1 p.2 (.slice none 0 0) (.slice none 0 0):=by
 unfold Kz;rw[List.flatMap_append,List.flatMap_singleton]
theorem msgsC_get (h:Hd):∀(P:List (Value×Value)) (k:Nat) (hk:k<P.length) (j:Nat) (x:Value),(yT h P[k].1 P[k].2 (.slice none 0 0) (.slice none 0 0))[j]? =some x->(Kz h P)[k*14+j]? =some x
 | p :: P,0,_,j,x,hx=>by
   unfold Kz;rw[List.flatMap_cons,Nat.zero_mul,Nat.zero_add,List.getElem?_append_left (by simpa using (List.getElem?_eq_some_iff.1 hx).1)];exact hx
 | p :: P,k+1,hk,j,x,hx=>by
   have h1:=msgsC_get h P k (by simpa using hk) j x hx;unfold Kz at h1 ⊢;rw[List.flatMap_cons,List.getElem?_append_right (by simp;omega)];rw[show(k+1)*14+j-(yT h p.1 p.2 (.slice none 0 0) (.slice none 0 0)).length=k*14+j by simp;omega];exact h1
theorem msgs_row {base:Nat}{w:World}{v:Value}{h:Hd}{qs:List Qn}{P:List (Value×Value)}{L:List (List Rec)}(hn:P.length=L.length)(ho:w.ownsRow base 33 14 v P.length (Kz h P))
 (hq:∀k (hk:k<P.length),yw w P[k].1 qs) (hr:∀k (hk:k<P.length) (hk2:k<L.length),ql w P[k].2 L[k]) (hql:qs.length<=1000000000000) (hrl:∀p∈L,p.length<=1000000000000):uf w v (tr.YP h qs L):=by
 obtain⟨a,cap,rfl,hc⟩:=qj ho;have hlen:(tr.YP h qs L).length=P.length:=by unfold tr.YP;rw[List.length_map,hn]
 refine⟨a,cap,by rw[hlen],by rw[hlen];exact hc,λk hk=>?_⟩;have hk1:k<P.length:=by rw[<- hlen];exact hk
 have hk2:k<L.length:=by rw[<- hn];exact hk1
 rcases ho.2 with⟨h0,h1⟩|⟨g,cap',cur,hv,hb,hg,rest⟩
 ·omega
 ·simp only[gL,true_and]at hv;obtain⟨rfl,rfl⟩:=hv;have e:(tr.YP h qs L)[k]=⟨h,qs,L[k],[],[]⟩:=List.getElem_map ..;refine⟨g,0,P[k].1,P[k].2,.slice none 0 0,.slice none 0 0,rfl,qA hg,?_,?_,?_⟩
  ·rw[e];intro j x hx;have h3:=ho.cells (g:=g) rfl (k*14+j) x (msgsC_get h P k hk1 j x hx);rw[Addr.add_lit,Nat.zero_add]at h3;rw[Nat.zero_add];exact h3
  ·rw[e];exact⟨hq k hk1,hr k hk1 hk2,⟨none,0,rfl,gI _,λ_ h=>absurd h (Nat.not_lt_zero _)⟩,⟨none,0,rfl,gI _,λ_ h=>absurd h (Nat.not_lt_zero _)⟩⟩
  ·rw[e];exact⟨hql,hrl _ (Ht hk2),by simp,by simp⟩
namespace zn
theorem within_fold {n a b:ByteArray}(hn:qo n=true)(ha:qo a=true)(hb:qo b=true)(h:qy a=qy b):zI n a=zI n b:=by
 obtain⟨x,hx⟩:=yO hn;obtain⟨y,hy⟩:=yO ha;obtain⟨z,hz⟩:=yO hb;have h1:=(fold_eq hy hz).1 h;have h2:y.length=z.length:=by rw[<- Zc y,h1,Zc]
 have h3:zI n a=true↔zI n b=true:=by rw[Zv hx hy,Zv hx hz,h1,h2]
 cases e1:zI n a <;> cases e2:zI n b <;> simp_all
theorem Xn {n a b:ByteArray}(hn:qo n=true)(ha:qo a=true)(hb:qo b=true)(h:qy a=qy b):qG n a=qG n b:=by
 have h3:qG n a=true↔qG n b=true:=by rw[zP hn ha,zP hn hb,h]
 cases e1:qG n a <;> cases e2:qG n b <;> simp_all
theorem rules_fold {a b:ByteArray}{l:List Rec}(ha:qo a=true)(hb:qo b=true)(h:qy a=qy b)(hl:∀r∈l,qo r.owner=true):zS a l=zS b l:=by
 have e:Qj a l=Qj b l:=by
  funext k
  unfold Qj
  cases hk:l[k]? with
  | none=>rfl
  | some r=>
    have hm:r∈l:=List.mem_of_getElem? hk;simp only;unfold JK;rw[Xn (hl r hm) ha hb h]
 unfold zS;rw[e,h]
theorem valid_fold {a b:ByteArray}{l:List Rec}(hv:Valid a l)(hb:qo b=true)(h:qy a=qy b):Valid b l:=
 ⟨hb,hv.small,λr hr=>⟨(hv.each r hr).1,(hv.each r hr).2.1,by rw[<- within_fold (hv.each r hr).1 hv.ap hb h];exact(hv.each r hr).2.2⟩,by
  rw[<- rules_fold hv.ap hb h λr hr=>(hv.each r hr).1];exact hv.rules⟩
theorem K7 {a:ByteArray}{l:List Rec}(hv:Valid a l):yG a l=none:=by
 have h1:kz a l=none:=by
  unfold kz;rw[vE.2 λr hr=>(hv.each r hr).2.1];simp only;rw[vE.2 λr hr=>by rw[(hv.each r hr).2.2];rfl]
 unfold yG;rw[if_neg (by rw[hv.ap];simp),if_neg (by have:=hv.small;omega),h1];exact hv.rules
theorem vJ {a:ByteArray}{l:List Rec}(hv:Valid a l):l.Nodup:=
 (zn.Qv (zn.ZC hv.rules)).imp λh e=>h (by rw[e])
theorem KM {a:ByteArray}{l:List Rec}(hv:Valid a l):Uniq l:=uniq_of (zn.Qv (zn.ZC hv.rules))
theorem valid_perm {a:ByteArray}{l l':List Rec}(hv:Valid a l)(hp:l.Perm l'):Valid a l':=Z9 (newE_of hp (K7 hv))
end zn
namespace tr
abbrev St:=Rec×Bool×List Rec
def jc (first:Rec):St->List Rec->Int×List Rec
 | _,[]=>(10,[])
 | (now,goes,l),x :: t=>
   if x.typ=6 then
    if goes=true then jc first (x,false,l) t
    else if x=now/\t= []/\x=first then(0,l ++ [now])
    else if x≠now then(30,[])
    else jc first (now,true,l) t
   else if goes=true then(if x∈l then jc first (now,true,l.erase x) t else(28,[]))
   else if x∈l then(19,[]) else jc first (now,false,l ++ [x]) t
section
variable {first now x:Rec}{goes:Bool}{l t:List Rec}
theorem XP {s:St}:jc first s []=(10,[]):=by unfold jc;rfl
theorem X8 (h:x.typ=6):jc first (now,true,l) (x :: t)=jc first (x,false,l) t:=by rw[jc];rw[if_pos h,if_pos rfl]
theorem run_end (h:x.typ=6)(h1:x=now)(h2:t= [])(h3:x=first):jc first (now,false,l) (x :: t)=(0,l ++ [now]):=by rw[jc];rw[if_pos h,if_neg (by simp),if_pos ⟨h1,h2,h3⟩]
theorem run_old (h:x.typ=6)(h1:x≠now):jc first (now,false,l) (x :: t)=(30,[]):=by rw[jc];rw[if_pos h,if_neg (by simp),if_neg (λh=>h1 h.1),if_pos h1]
theorem J4 (h:x.typ=6)(h1:x=now)(h2:¬(t= []/\x=first)):jc first (now,false,l) (x :: t)=jc first (now,true,l) t:=by rw[jc];rw[if_pos h,if_neg (by simp),if_neg (λh=>h2 h.2),if_neg (by simp[h1])]
theorem run_del (h:x.typ≠6)(h1:x∈l):jc first (now,true,l) (x :: t)=jc first (now,true,l.erase x) t:=by rw[jc];rw[if_neg h,if_pos rfl,if_pos h1]
theorem run_none (h:x.typ≠6)(h1:x∉l):jc first (now,true,l) (x :: t)=(28,[]):=by rw[jc];rw[if_neg h,if_pos rfl,if_neg h1]
theorem run_add (h:x.typ≠6)(h1:x∉l):jc first (now,false,l) (x :: t)=jc first (now,false,l ++ [x]) t:=by rw[jc];rw[if_neg h,if_neg (by simp),if_neg h1]
theorem run_twice (h:x.typ≠6)(h1:x∈l):jc first (now,false,l) (x :: t)=(19,[]):=by rw[jc];rw[if_neg h,if_neg (by simp),if_pos h1]
end
def Zz (first:Rec)(s:St)(x:Rec):Option St:=
 if x.typ=6 then(if s.2.1=true then some (x,false,s.2.2) else if x=s.1/\x≠first then some (s.1,true,s.2.2) else none)
 else if s.2.1=true then(if x∈s.2.2 then some (s.1,true,s.2.2.erase x) else none) else if x∈s.2.2 then none else some (s.1,false,s.2.2 ++ [x])
theorem run_step {first:Rec}{s s':St}{x:Rec}{t:List Rec}(h:Zz first s x=some s'):jc first s (x :: t)=jc first s' t:=by
 obtain⟨now,goes,l⟩:=s;unfold Zz at h;simp only at h;by_cases h6:x.typ=6
 ·rw[if_pos h6]at h
  cases goes
  ·rw[if_neg (by simp)]at h
   split at h
   ·rename_i h1
    obtain rfl:=Hr h;exact J4 h6 h1.1 λh2=>h1.2 h2.2
   ·cases h
  ·rw[if_pos rfl]at h;obtain rfl:=Hr h;exact X8 h6
 ·rw[if_neg h6]at h
  cases goes
  ·rw[if_neg (by simp)]at h
   split at h
   ·cases h
   ·rename_i h1
    obtain rfl:=Hr h;exact run_add h6 h1
  ·rw[if_pos rfl]at h
   split at h
   ·rename_i h1
    obtain rfl:=Hr h;exact run_del h6 h1
   ·cases h
def goO (first:Rec):St->List Rec->Option St
 | s,[]=>some s
 | s,x :: P=>(Zz first s x).bind λs'=>goO first s' P
theorem go_app (first:Rec):∀(s:St) (P Q:List Rec),goO first s (P ++ Q)=(goO first s P).bind λs'=>goO first s' Q
 | s,[],Q=>rfl
 | s,x :: P,Q=>by
   rw[List.cons_append,goO,goO]
   cases h:Zz first s x with
   | none=>rfl
   | some s'=>exact go_app first s' P Q
theorem run_go {first:Rec}:∀{s s':St} {P t:List Rec},goO first s P=some s'->jc first s (P ++ t)=jc first s' t
 | s,s',[],t,h=>by rw[goO]at h;obtain rfl:=Hr h;rfl
 | s,s',x :: P,t,h=>by
   rw[goO]at h
   cases h1:Zz first s x with
   | none=>rw[h1]at h;cases h
   | some s1=>
     rw[h1]at h;rw[List.cons_append,run_step h1];exact run_go (P:=P) h
theorem go_take {first:Rec}:∀{s s':St} {P:List Rec} (k:Nat),goO first s P=some s'->∃s'',goO first s (P.take k)=some s''
 | s,s',[],k,_=>⟨s,by rw[List.take_nil];rfl⟩
 | s,s',x :: P,0,_=>⟨s,by rw[List.take_zero];rfl⟩
 | s,s',x :: P,k+1,h=>by
   rw[goO]at h
   cases h1:Zz first s x with
   | none=>rw[h1]at h;cases h
   | some s1=>
     rw[h1]at h;obtain⟨s2,h2⟩:=go_take k (P:=P) h;exact⟨s2,by rw[List.take_succ_cons,goO,h1];exact h2⟩
theorem go_dels (first now:Rec):∀(D l:List Rec),D.Nodup->(∀x∈D,x.typ≠6/\x∈l)->l.Nodup->∃l',goO first (now,true,l) D=some (now,true,l')/\l'.Nodup/\∀x,x∈l'↔x∈l/\x∉D
 | [],l,_,_,hl=>⟨l,rfl,hl,λx=>by simp⟩
 | d :: D,l,hd,hD,hl=>by
   obtain⟨h1,h2⟩:=List.nodup_cons.1 hd;obtain⟨h6,hm⟩:=hD d (by simp);obtain⟨l',e,h3,h4⟩:=go_dels first now D (l.erase d) h2 (λx hx=>⟨(hD x (by simp[hx])).1,(hl.mem_erase_iff).2 ⟨λe=>h1 (e ▸ hx),(hD x (by simp[hx])).2⟩⟩) (hl.erase d)
   refine⟨l',?_,h3,λx=>?_⟩
   ·rw[goO];have:Zz first (now,true,l) d=some (now,true,l.erase d):=by unfold Zz;rw[if_neg h6];simp[hm]
    rw[this];exact e
   ·rw[h4 x,hl.mem_erase_iff,List.mem_cons];constructor
    ·rintro⟨⟨h5,h6⟩,h7⟩;exact⟨h6,λh=>h.elim h5 h7⟩
    ·rintro⟨h5,h6⟩;exact⟨⟨λe=>h6 (.inl e),h5⟩,λe=>h6 (.inr e)⟩
theorem go_adds (first now:Rec):∀(D l:List Rec),D.Nodup->(∀x∈D,x.typ≠6/\x∉l)->goO first (now,false,l) D=some (now,false,l ++ D)
 | [],l,_,_=>by rw[List.append_nil];rfl
 | d :: D,l,hd,hD=>by
   obtain⟨h1,h2⟩:=List.nodup_cons.1 hd;obtain⟨h6,hm⟩:=hD d (by simp);rw[goO];have:Zz first (now,false,l) d=some (now,false,l ++ [d]):=by unfold Zz;rw[if_neg h6];simp[hm]
   rw[this]
   have h3:=go_adds first now D (l ++ [d]) h2 λx hx=>⟨(hD x (by simp[hx])).1,λh=>by
    rcases List.mem_append.1 h with h | h
    ·exact(hD x (by simp[hx])).2 h
    ·exact h1 (List.mem_singleton.1 h ▸ hx)⟩
   show goO first (now,false,l ++ [d]) D=_
   rw[h3,List.append_assoc];rfl
theorem kS {l:List Rec}{x:Rec}:x∈q9 l↔x∈l/\x.typ≠6:=by unfold q9;simp
theorem xh {l m:List Rec}{x:Rec}:x∈Zd l m↔x∈l/\x∉m:=by unfold Zd;simp
theorem go_piece {first:Rec}{a b:Zn}(ha:Ok a)(hb:Ok b)(hf:qZ a≠first){l:List Rec}(hl:l.Nodup)(hm:∀x,x∈l↔x∈q9 a.l):
 ∃l',goO first (qZ a,false,l) (YT a b)=some (qZ b,false,l')/\l'.Nodup/\∀x,x∈l'↔x∈q9 b.l:=by
 have na:(q9 a.l).Nodup:=(zn.vJ ha).sublist List.filter_sublist;have nb:(q9 b.l).Nodup:=(zn.vJ hb).sublist List.filter_sublist;obtain⟨l1,e1,n1,m1⟩:=go_dels first (qZ a) (Zd (q9 a.l) (q9 b.l)) l (na.sublist List.filter_sublist) (λx hx=>⟨(kS.1 (xh.1 hx).1).2,(hm x).2 (xh.1 hx).1⟩) hl
 have e2:=go_adds first (qZ b) (Zd (q9 b.l) (q9 a.l)) l1 (nb.sublist List.filter_sublist) λx hx=>⟨(kS.1 (xh.1 hx).1).2,λh=>(xh.1 hx).2 ((hm x).1 ((m1 x).1 h).1)⟩
 refine⟨l1 ++ Zd (q9 b.l) (q9 a.l),?_,?_,λx=>?_⟩
 ·unfold YT;have s1:goO first (qZ a,false,l) [qZ a]=some (qZ a,true,l):=by
   rw[goO,show Zz first (qZ a,false,l) (qZ a)=some (qZ a,true,l) by unfold Zz;rw[if_pos (yx ha).2.2.1];simp[hf]];rfl
  have s2:goO first (qZ a,true,l1) [qZ b]=some (qZ b,false,l1):=by
   rw[goO,show Zz first (qZ a,true,l1) (qZ b)=some (qZ b,false,l1) by unfold Zz;rw[if_pos (yx hb).2.2.1];simp];rfl
  rw[go_app,go_app,go_app,s1,Option.bind_some,e1,Option.bind_some,s2,Option.bind_some,e2]
 ·refine List.nodup_append.2 ⟨n1,nb.sublist List.filter_sublist,λx hx y hy e=>?_⟩;subst e;exact(xh.1 hy).2 ((hm x).1 ((m1 x).1 hx).1)
 ·rw[Hl,m1 x,hm x,xh,xh];constructor
  ·rintro(⟨h1,h2⟩|⟨h1,_⟩)
   ·exact Classical.byContradiction λh=>h2 ⟨h1,h⟩
   ·exact h1
  ·intro h;by_cases h2:x∈q9 a.l
   ·exact .inl ⟨h2,λh3=>h3.2 h⟩
   ·exact .inr ⟨h,h2⟩
theorem go_steps {H:List Zn}(hOk:∀i,i<H.length->Ok (zh H i)){first:Rec}(f:Nat):∀n,f+n<H.length->(∀i,i<n->qZ (zh H (f+i))≠first)->
 ∃l',goO first (qZ (zh H f),false,q9 (zh H f).l) (jb H f n)=some (qZ (zh H (f+n)),false,l')/\l'.Nodup/\∀x,x∈l'↔x∈q9 (zh H (f+n)).l
 | 0,h,_=>⟨_,rfl,(zn.vJ (hOk f (by omega))).sublist List.filter_sublist,λ_=>Iff.rfl⟩
 | n+1,h,hs=>by
   obtain⟨l1,e1,n1,m1⟩:=go_steps hOk f n (by omega) λi hi=>hs i (by omega);obtain⟨l2,e2,n2,m2⟩:=go_piece (hOk (f+n) (by omega)) (hOk (f+n+1) (by omega)) (hs n (by omega)) n1 m1;exact⟨l2,by rw[Jk,go_app,e1,Option.bind_some];exact e2,n2,m2⟩
theorem perm_back {z:Zn}(hv:Ok z){l:List Rec}(hn:l.Nodup)(hm:∀x,x∈l↔x∈q9 z.l):(l ++ [qZ z]).Perm z.l:=by
 have hs:=yx hv;refine(List.perm_ext_iff_of_nodup ?_ (zn.vJ hv)).2 λx=>?_
 ·refine List.nodup_append.2 ⟨hn,by simp,λx hx y hy e=>?_⟩;rw[List.mem_singleton.1 hy]at e;subst e;exact(kS.1 ((hm _).1 hx)).2 hs.2.2.1
 ·rw[Hl,hm,kS,gY];constructor
  ·rintro(h | h)
   ·exact h.1
   ·rw[h];exact hs.2.1
  ·intro h;by_cases h6:x.typ=6
   ·right;have h1:x∈zn.qJ z.l (qy z.ap,6):=zn.kD.2 ⟨h,(UR hv h).1 h6⟩;rw[hs.1]at h1;exact List.mem_singleton.1 h1
   ·exact .inl ⟨h,h6⟩
theorem perm_front {z:Zn}(hv:Ok z):(qZ z :: q9 z.l).Perm z.l:=
 (List.perm_append_singleton (qZ z) (q9 z.l)).symm.trans (perm_back hv ((zn.vJ hv).sublist List.filter_sublist) λ_=>Iff.rfl)
end tr
end Go.Proofs.YtpcmilhjpmlbpaaGreatDoor
