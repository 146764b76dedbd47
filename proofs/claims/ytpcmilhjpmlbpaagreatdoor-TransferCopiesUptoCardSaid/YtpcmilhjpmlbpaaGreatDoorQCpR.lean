import Derived.Test.YtpcmilhjpmlbpaaGreatDoorQTrJ
import Derived.Test.YtpcmilhjpmlbpaaGreatDoorQTrQ
import Derived.Test.YtpcmilhjpmlbpaaGreatDoorQTrW
import Derived.Test.YtpcmilhjpmlbpaaGreatDoorQRefF
import Derived.Test.YtpcmilhjpmlbpaaGreatDoorQZoneP
import Derived.Test.YtpcmilhjpmlbpaaGreatDoorQTrP
import Derived.Test.YtpcmilhjpmlbpaaGreatDoorQTrT
namespace Go.Proofs.YtpcmilhjpmlbpaaGreatDoor
open Go.RowKit Go.Shelf nm od
def Y8 (R:List Rec×Int)(w:World)(e:Ending)(w':World):Prop:=∃v,e= .returned (.tuple #[v,.int .i64 R.2])∧Below w.heap.size w w'∧w'.ownsRow w.heap.size 80 5 v R.1.length (qx R.1)
theorem rowPost_some {R:List Rec×Int}{L:List Rec}{c:Int}{v:Value}{w w':World}(h:R=(L,c))(hB:Below w.heap.size w w')(ho:w'.ownsRow w.heap.size 80 5 v L.length (qx L)):Y8 R w (.returned (.tuple #[v,.int .i64 c])) w':=by
 subst h
 exact⟨_,rfl,hB,ho⟩
namespace tr
theorem msg_facts {h:Hd}{qs:List Qn}{an au ad:List Rec}(h1:wi.jX h qs an au ad=true):(∀q∈qs,qj q.name=true)∧∀x∈au,ZA x∧(x.typ=6→x.data.size≠0→20≤x.data.size∧x.data.size≤65535):=by
 unfold wi.jX at h1
 simp only[Bool.and_eq_true]at h1
 refine⟨fun q hq=>?_,fun x hx=>?_⟩
 ·have h4:=List.all_eq_true.1 h1.1.1.1.2 q hq
  unfold wi.qnB at h4
  simp only[Bool.and_eq_true]at h4
  exact h4.1.1
 ·have hr:=List.all_eq_true.1 h1.1.2 x hx
  refine⟨right_ok hr,fun h6 hne=>?_⟩
  unfold wi.ze at hr
  simp only[Bool.and_eq_true]at hr
  obtain⟨_,h5⟩:=hr
  rw[if_neg (by omega),Bool.or_eq_true]at h5
  rcases h5 with h | h
  ·unfold wi.Qw at h
   simp only[Bool.and_eq_true,decide_eq_true_eq]at h
   omega
  ·have:=of_decide_eq_true h
   rw[h6]at this
   exact dt.Qj this
end tr
end Go.Proofs.YtpcmilhjpmlbpaaGreatDoor
namespace Go.Proofs.YtpcmilhjpmlbpaaGreatDoor
open Go.RowKit Go.Shelf nm od
@[reducible] def hdA (h:Hd) (t:Bool) (c:Int):Hd:=⟨h.id,true,h.op,t,false,h.rd,false,false,h.cd,c⟩
namespace tr
def ku (l:List Rec)(i:Nat):List Rec:=(l.drop (i*16)).take 16
def Zh (l:List Rec):Nat:=max 1 ((l.length+15) / 16)
def ZI (h:Hd)(qs:List Qn)(P:List (List Rec)):List Msg:=P.map fun p=>⟨h,qs,p,[],[]⟩
def jQ (l:List Rec)(n:Nat):List (List Rec):=(List.range n).map (ku l)
theorem parts_next (l:List Rec)(n:Nat):jQ l (n+1)=jQ l n ++ [ku l n]:=by
 unfold jQ
 rw[List.range_succ,List.map_append,List.map_singleton]
theorem Uc (l:List Rec)(n:Nat):(jQ l n).length=n:=by unfold jQ;simp
theorem V9 (l:List Rec)(i:Nat):(ku l i).length≤16:=by unfold ku;rw[List.length_take];omega
def xO (H:List Zn)(M:Msg):List Msg:=if M.h.K9=true∨wi.jX M.h M.qs M.an M.au M.ad=false then [] else
 ZI (hdA M.h ((yE H M.h.op M.qs M.au).2 == 0) (yE H M.h.op M.qs M.au).2) M.qs (jQ (yE H M.h.op M.qs M.au).1 (Zh (yE H M.h.op M.qs M.au).1))
theorem Q6 (z:Zn):(yw z).length=(q8 z.l).length+2:=by unfold yw;simp
theorem rowS_facts (H:List Zn)(s:Int)(h:(qM H).l.length≤2000):(K7 H s).2=0∧(K7 H s).1≠[]∧(K7 H s).1.length≤2002:=by
 have h1:=Q6 (qM H)
 have h2:(q8 (qM H).l).length≤(qM H).l.length:=List.length_filter_le _ _
 unfold K7
 split
 ·exact⟨rfl,by simp,by simp⟩
 ·split
  ·rename_i hc
   refine⟨rfl,?_,by have:=hc.2;simp only;omega⟩
   unfold yH
   simp
  ·refine⟨rfl,?_,by simp only;omega⟩
   unfold yw
   simp
theorem rowA_facts (H:List Zn)(op:Int)(qs:List Qn)(au:List Rec)(h:(qM H).l.length≤2000):
 ((yE H op qs au).2=0∧(yE H op qs au).1≠[]∧(yE H op qs au).1.length≤2002)∨((yE H op qs au).2≠0∧(yE H op qs au).1= []):=by
 have h1:=Q6 (qM H)
 have h2:(q8 (qM H).l).length≤(qM H).l.length:=List.length_filter_le _ _
 unfold yE
 split
 ·split
  ·exact .inr ⟨by decide,rfl⟩
  ·split
   ·exact .inr ⟨by decide,rfl⟩
   ·split
    ·exact .inl ⟨rfl,by unfold yw;simp,by simp only;omega⟩
    ·split
     ·exact .inr ⟨by decide,rfl⟩
     ·split
      ·split
       ·exact .inr ⟨by decide,rfl⟩
       ·exact .inl (rowS_facts H _ h)
      ·exact .inr ⟨by decide,rfl⟩
 ·exact .inr ⟨by decide,rfl⟩
theorem Xb {l:List Rec}(h:l≠[]):l.length≤Zh l*16∧Zh l*16<l.length+16∧1≤Zh l:=by
 have:=List.length_pos_iff.2 h
 unfold Zh
 omega
end tr
def Jk (h:Hd)(P:List (Value×Value)):List Value:=P.flatMap fun p=>kK h p.1 p.2 (.slice none 0 0) (.slice none 0 0)
theorem msgsC_app (h:Hd)(P:List (Value×Value))(p:Value×Value):Jk h (P ++ [p])=Jk h P ++ kK h p.1 p.2 (.slice none 0 0) (.slice none 0 0):=by
 unfold Jk
 rw[List.flatMap_append,List.flatMap_singleton]
theorem msgsC_get (h:Hd):∀(P:List (Value×Value)) (k:Nat) (hk:k<P.length) (j:Nat) (x:Value),(kK h P[k].1 P[k].2 (.slice none 0 0) (.slice none 0 0))[j]? =some x→(Jk h P)[k*14+j]? =some x
 | p :: P,0,_,j,x,hx=>by
   unfold Jk
   rw[List.flatMap_cons,Nat.zero_mul,Nat.zero_add,List.getElem?_append_left (by simpa using (List.getElem?_eq_some_iff.1 hx).1)]
   exact hx
 | p :: P,k+1,hk,j,x,hx=>by
   have h1:=msgsC_get h P k (by simpa using hk) j x hx
   unfold Jk at h1 ⊢
   rw[List.flatMap_cons,List.getElem?_append_right (by simp;omega)]
   rw[show(k+1)*14+j-(kK h p.1 p.2 (.slice none 0 0) (.slice none 0 0)).length=k*14+j by simp;omega]
   exact h1
theorem msgs_row {base:Nat}{w:World}{v:Value}{h:Hd}{qs:List Qn}{P:List (Value×Value)}{L:List (List Rec)}(hn:P.length=L.length)(ho:w.ownsRow base 33 14 v P.length (Jk h P))
 (hq:∀k (hk:k<P.length),jL w P[k].1 qs) (hr:∀k (hk:k<P.length) (hk2:k<L.length),qz w P[k].2 L[k]) (hql:qs.length≤1000000000000) (hrl:∀p∈L,p.length≤1000000000000):vG w v (tr.ZI h qs L):=by
 obtain⟨a,cap,rfl,hc⟩:=qm ho
 have hlen:(tr.ZI h qs L).length=P.length:=by unfold tr.ZI;rw[List.length_map,hn]
 refine⟨a,cap,by rw[hlen],by rw[hlen];exact hc,fun k hk=>?_⟩
 have hk1:k<P.length:=by rw[← hlen];exact hk
 have hk2:k<L.length:=by rw[← hn];exact hk1
 rcases ho.2 with⟨h0,h1⟩|⟨g,cap',cur,hv,hb,hg,rest⟩
 ·omega
 ·simp only[Value.slice.injEq,true_and]at hv
  obtain⟨rfl,rfl⟩:=hv
  have e:(tr.ZI h qs L)[k]=⟨h,qs,L[k],[],[]⟩:=List.getElem_map ..
  refine⟨g,0,P[k].1,P[k].2,.slice none 0 0,.slice none 0 0,rfl,qo hg,?_,?_,?_⟩
  ·rw[e]
   intro j x hx
   have h3:=ho.cells (g:=g) rfl (k*14+j) x (msgsC_get h P k hk1 j x hx)
   rw[Addr.add_lit,Nat.zero_add]at h3
   rw[Nat.zero_add]
   exact h3
  ·rw[e]
   exact⟨hq k hk1,hr k hk1 hk2,⟨none,0,rfl,Nat.le_refl _,fun _ h=>absurd h (Nat.not_lt_zero _)⟩,⟨none,0,rfl,Nat.le_refl _,fun _ h=>absurd h (Nat.not_lt_zero _)⟩⟩
  ·rw[e]
   exact⟨hql,hrl _ (List.getElem_mem hk2),by simp,by simp⟩
end Go.Proofs.YtpcmilhjpmlbpaaGreatDoor
namespace Go.Proofs.YtpcmilhjpmlbpaaGreatDoor
open Go.RowKit Go.Shelf nm od
namespace zn
theorem within_fold {n a b:ByteArray}(hn:qj n=true)(ha:qj a=true)(hb:qj b=true)(h:qw a=qw b):zx n a=zx n b:=by
 obtain⟨x,hx⟩:=yL hn
 obtain⟨y,hy⟩:=yL ha
 obtain⟨z,hz⟩:=yL hb
 have h1:=(fold_eq hy hz).1 h
 have h2:y.length=z.length:=by rw[← Qr y,h1,Qr]
 have h3:zx n a=true↔zx n b=true:=by rw[QG hx hy,QG hx hz,h1,h2]
 cases e1:zx n a <;> cases e2:zx n b <;> simp_all
theorem U1 {n a b:ByteArray}(hn:qj n=true)(ha:qj a=true)(hb:qj b=true)(h:qw a=qw b):qF n a=qF n b:=by
 have h3:qF n a=true↔qF n b=true:=by rw[zO hn ha,zO hn hb,h]
 cases e1:qF n a <;> cases e2:qF n b <;> simp_all
theorem rules_fold {a b:ByteArray}{l:List Rec}(ha:qj a=true)(hb:qj b=true)(h:qw a=qw b)(hl:∀r∈l,qj r.owner=true):zB a l=zB b l:=by
 have e:xu a l=xu b l:=by
  funext k
  unfold xu
  cases hk:l[k]? with
  | none=>rfl
  | some r=>
    have hm:r∈l:=List.mem_of_getElem? hk
    simp only
    unfold YK
    rw[U1 (hl r hm) ha hb h]
 unfold zB
 rw[e,h]
theorem valid_fold {a b:ByteArray}{l:List Rec}(hv:Valid a l)(hb:qj b=true)(h:qw a=qw b):Valid b l:=
 ⟨hb,hv.small,fun r hr=>⟨(hv.each r hr).1,(hv.each r hr).2.1,by rw[← within_fold (hv.each r hr).1 hv.ap hb h];exact(hv.each r hr).2.2⟩,by
  rw[← rules_fold hv.ap hb h fun r hr=>(hv.each r hr).1];exact hv.rules⟩
theorem JI {a:ByteArray}{l:List Rec}(hv:Valid a l):yx a l=none:=by
 have h1:yZ a l=none:=by
  unfold yZ
  rw[uD.2 fun r hr=>(hv.each r hr).2.1]
  simp only
  rw[uD.2 fun r hr=>by rw[(hv.each r hr).2.2];rfl]
 unfold yx
 rw[if_neg (by rw[hv.ap];simp),if_neg (by have:=hv.small;omega),h1]
 exact hv.rules
theorem uG {a:ByteArray}{l:List Rec}(hv:Valid a l):l.Nodup:=
 (zn.uP (zn.xy hv.rules)).imp fun h e=>h (by rw[e])
theorem VJ {a:ByteArray}{l:List Rec}(hv:Valid a l):Uniq l:=Vw (zn.uP (zn.xy hv.rules))
theorem valid_perm {a:ByteArray}{l l':List Rec}(hv:Valid a l)(hp:l.Perm l'):Valid a l':=Yi (newE_of hp (JI hv))
end zn
end Go.Proofs.YtpcmilhjpmlbpaaGreatDoor
namespace Go.Proofs.YtpcmilhjpmlbpaaGreatDoor
open Go.RowKit Go.Shelf nm od
namespace tr
abbrev St:=Rec×Bool×List Rec
def yY (first:Rec):St→List Rec→Int×List Rec
 | _,[]=>(10,[])
 | (now,goes,l),x :: t=>
   if x.typ=6 then
    if goes=true then yY first (x,false,l) t
    else if x=now∧t= []∧x=first then(0,l ++ [now])
    else if x≠now then(30,[])
    else yY first (now,true,l) t
   else if goes=true then(if x∈l then yY first (now,true,l.erase x) t else(28,[]))
   else if x∈l then(19,[]) else yY first (now,false,l ++ [x]) t
section
variable {first now x:Rec}{goes:Bool}{l t:List Rec}
theorem run_nil {s:St}:yY first s []=(10,[]):=by unfold yY;rfl
theorem run_turn (h:x.typ=6):yY first (now,true,l) (x :: t)=yY first (x,false,l) t:=by rw[yY];rw[if_pos h,if_pos rfl]
theorem run_end (h:x.typ=6)(h1:x=now)(h2:t= [])(h3:x=first):yY first (now,false,l) (x :: t)=(0,l ++ [now]):=by rw[yY];rw[if_pos h,if_neg (by simp),if_pos ⟨h1,h2,h3⟩]
theorem run_old (h:x.typ=6)(h1:x≠now):yY first (now,false,l) (x :: t)=(30,[]):=by rw[yY];rw[if_pos h,if_neg (by simp),if_neg (fun h=>h1 h.1),if_pos h1]
theorem KX (h:x.typ=6)(h1:x=now)(h2:¬(t= []∧x=first)):yY first (now,false,l) (x :: t)=yY first (now,true,l) t:=by rw[yY];rw[if_pos h,if_neg (by simp),if_neg (fun h=>h2 h.2),if_neg (by simp[h1])]
theorem run_del (h:x.typ≠6)(h1:x∈l):yY first (now,true,l) (x :: t)=yY first (now,true,l.erase x) t:=by rw[yY];rw[if_neg h,if_pos rfl,if_pos h1]
theorem run_none (h:x.typ≠6)(h1:x∉l):yY first (now,true,l) (x :: t)=(28,[]):=by rw[yY];rw[if_neg h,if_pos rfl,if_neg h1]
theorem run_add (h:x.typ≠6)(h1:x∉l):yY first (now,false,l) (x :: t)=yY first (now,false,l ++ [x]) t:=by rw[yY];rw[if_neg h,if_neg (by simp),if_neg h1]
theorem run_twice (h:x.typ≠6)(h1:x∈l):yY first (now,false,l) (x :: t)=(19,[]):=by rw[yY];rw[if_neg h,if_neg (by simp),if_pos h1]
end
def QK (first:Rec)(s:St)(x:Rec):Option St:=
 if x.typ=6 then(if s.2.1=true then some (x,false,s.2.2) else if x=s.1∧x≠first then some (s.1,true,s.2.2) else none)
 else if s.2.1=true then(if x∈s.2.2 then some (s.1,true,s.2.2.erase x) else none) else if x∈s.2.2 then none else some (s.1,false,s.2.2 ++ [x])
theorem run_step {first:Rec}{s s':St}{x:Rec}{t:List Rec}(h:QK first s x=some s'):yY first s (x :: t)=yY first s' t:=by
 obtain⟨now,goes,l⟩:=s
 unfold QK at h
 simp only at h
 by_cases h6:x.typ=6
 ·rw[if_pos h6]at h
  cases goes
  ·rw[if_neg (by simp)]at h
   split at h
   ·rename_i h1
    obtain rfl:=Option.some.inj h
    exact KX h6 h1.1 fun h2=>h1.2 h2.2
   ·cases h
  ·rw[if_pos rfl]at h
   obtain rfl:=Option.some.inj h
   exact run_turn h6
 ·rw[if_neg h6]at h
  cases goes
  ·rw[if_neg (by simp)]at h
   split at h
   ·cases h
   ·rename_i h1
    obtain rfl:=Option.some.inj h
    exact run_add h6 h1
  ·rw[if_pos rfl]at h
   split at h
   ·rename_i h1
    obtain rfl:=Option.some.inj h
    exact run_del h6 h1
   ·cases h
def goO (first:Rec):St→List Rec→Option St
 | s,[]=>some s
 | s,x :: P=>(QK first s x).bind fun s'=>goO first s' P
theorem XI (first:Rec):∀(s:St) (P Q:List Rec),goO first s (P ++ Q)=(goO first s P).bind fun s'=>goO first s' Q
 | s,[],Q=>rfl
 | s,x :: P,Q=>by
   rw[List.cons_append,goO,goO]
   cases h:QK first s x with
   | none=>rfl
   | some s'=>exact XI first s' P Q
theorem run_go {first:Rec}:∀{s s':St} {P t:List Rec},goO first s P=some s'→yY first s (P ++ t)=yY first s' t
 | s,s',[],t,h=>by rw[goO]at h;obtain rfl:=Option.some.inj h;rfl
 | s,s',x :: P,t,h=>by
   rw[goO]at h
   cases h1:QK first s x with
   | none=>rw[h1]at h;cases h
   | some s1=>
     rw[h1]at h
     rw[List.cons_append,run_step h1]
     exact run_go (P:=P) h
theorem go_take {first:Rec}:∀{s s':St} {P:List Rec} (k:Nat),goO first s P=some s'→∃s'',goO first s (P.take k)=some s''
 | s,s',[],k,_=>⟨s,by rw[List.take_nil];rfl⟩
 | s,s',x :: P,0,_=>⟨s,by rw[List.take_zero];rfl⟩
 | s,s',x :: P,k+1,h=>by
   rw[goO]at h
   cases h1:QK first s x with
   | none=>rw[h1]at h;cases h
   | some s1=>
     rw[h1]at h
     obtain⟨s2,h2⟩:=go_take k (P:=P) h
     exact⟨s2,by rw[List.take_succ_cons,goO,h1];exact h2⟩
theorem go_dels (first now:Rec):∀(D l:List Rec),D.Nodup→(∀x∈D,x.typ≠6∧x∈l)→l.Nodup→∃l',goO first (now,true,l) D=some (now,true,l')∧l'.Nodup∧∀x,x∈l'↔x∈l∧x∉D
 | [],l,_,_,hl=>⟨l,rfl,hl,fun x=>by simp⟩
 | d :: D,l,hd,hD,hl=>by
   obtain⟨h1,h2⟩:=List.nodup_cons.1 hd
   obtain⟨h6,hm⟩:=hD d (by simp)
   obtain⟨l',e,h3,h4⟩:=go_dels first now D (l.erase d) h2 (fun x hx=>⟨(hD x (by simp[hx])).1,(hl.mem_erase_iff).2 ⟨fun e=>h1 (e ▸ hx),(hD x (by simp[hx])).2⟩⟩) (hl.erase d)
   refine⟨l',?_,h3,fun x=>?_⟩
   ·rw[goO]
    have:QK first (now,true,l) d=some (now,true,l.erase d):=by unfold QK;rw[if_neg h6];simp[hm]
    rw[this]
    exact e
   ·rw[h4 x,hl.mem_erase_iff,List.mem_cons]
    constructor
    ·rintro⟨⟨h5,h6⟩,h7⟩;exact⟨h6,fun h=>h.elim h5 h7⟩
    ·rintro⟨h5,h6⟩;exact⟨⟨fun e=>h6 (.inl e),h5⟩,fun e=>h6 (.inr e)⟩
theorem go_adds (first now:Rec):∀(D l:List Rec),D.Nodup→(∀x∈D,x.typ≠6∧x∉l)→goO first (now,false,l) D=some (now,false,l ++ D)
 | [],l,_,_=>by rw[List.append_nil];rfl
 | d :: D,l,hd,hD=>by
   obtain⟨h1,h2⟩:=List.nodup_cons.1 hd
   obtain⟨h6,hm⟩:=hD d (by simp)
   rw[goO]
   have:QK first (now,false,l) d=some (now,false,l ++ [d]):=by unfold QK;rw[if_neg h6];simp[hm]
   rw[this]
   have h3:=go_adds first now D (l ++ [d]) h2 fun x hx=>⟨(hD x (by simp[hx])).1,fun h=>by
    rcases List.mem_append.1 h with h | h
    ·exact(hD x (by simp[hx])).2 h
    ·exact h1 (List.mem_singleton.1 h ▸ hx)⟩
   show goO first (now,false,l ++ [d]) D=_
   rw[h3,List.append_assoc]
   rfl
theorem kL {l:List Rec}{x:Rec}:x∈q8 l↔x∈l∧x.typ≠6:=by unfold q8;simp
theorem uU {l m:List Rec}{x:Rec}:x∈Qs l m↔x∈l∧x∉m:=by unfold Qs;simp
theorem go_piece {first:Rec}{a b:Zn}(ha:Ok a)(hb:Ok b)(hf:q9 a≠first){l:List Rec}(hl:l.Nodup)(hm:∀x,x∈l↔x∈q8 a.l):
 ∃l',goO first (q9 a,false,l) (ZL a b)=some (q9 b,false,l')∧l'.Nodup∧∀x,x∈l'↔x∈q8 b.l:=by
 have na:(q8 a.l).Nodup:=(zn.uG ha).sublist List.filter_sublist
 have nb:(q8 b.l).Nodup:=(zn.uG hb).sublist List.filter_sublist
 obtain⟨l1,e1,n1,m1⟩:=go_dels first (q9 a) (Qs (q8 a.l) (q8 b.l)) l (na.sublist List.filter_sublist) (fun x hx=>⟨(kL.1 (uU.1 hx).1).2,(hm x).2 (uU.1 hx).1⟩) hl
 have e2:=go_adds first (q9 b) (Qs (q8 b.l) (q8 a.l)) l1 (nb.sublist List.filter_sublist) fun x hx=>⟨(kL.1 (uU.1 hx).1).2,fun h=>(uU.1 hx).2 ((hm x).1 ((m1 x).1 h).1)⟩
 refine⟨l1 ++ Qs (q8 b.l) (q8 a.l),?_,?_,fun x=>?_⟩
 ·unfold ZL
  have s1:goO first (q9 a,false,l) [q9 a]=some (q9 a,true,l):=by
   rw[goO,show QK first (q9 a,false,l) (q9 a)=some (q9 a,true,l) by unfold QK;rw[if_pos (yz ha).2.2.1];simp[hf]]
   rfl
  have s2:goO first (q9 a,true,l1) [q9 b]=some (q9 b,false,l1):=by
   rw[goO,show QK first (q9 a,true,l1) (q9 b)=some (q9 b,false,l1) by unfold QK;rw[if_pos (yz hb).2.2.1];simp]
   rfl
  rw[XI,XI,XI,s1,Option.bind_some,e1,Option.bind_some,s2,Option.bind_some,e2]
 ·refine List.nodup_append.2 ⟨n1,nb.sublist List.filter_sublist,fun x hx y hy e=>?_⟩
  subst e
  exact(uU.1 hy).2 ((hm x).1 ((m1 x).1 hx).1)
 ·rw[List.mem_append,m1 x,hm x,uU,uU]
  constructor
  ·rintro(⟨h1,h2⟩|⟨h1,_⟩)
   ·exact Classical.byContradiction fun h=>h2 ⟨h1,h⟩
   ·exact h1
  ·intro h
   by_cases h2:x∈q8 a.l
   ·exact .inl ⟨h2,fun h3=>h3.2 h⟩
   ·exact .inr ⟨h,h2⟩
theorem XH {H:List Zn}(hOk:∀i,i<H.length→Ok (qZ H i)){first:Rec}(f:Nat):∀n,f+n<H.length→(∀i,i<n→q9 (qZ H (f+i))≠first)→
 ∃l',goO first (q9 (qZ H f),false,q8 (qZ H f).l) (yK H f n)=some (q9 (qZ H (f+n)),false,l')∧l'.Nodup∧∀x,x∈l'↔x∈q8 (qZ H (f+n)).l
 | 0,h,_=>⟨_,rfl,(zn.uG (hOk f (by omega))).sublist List.filter_sublist,fun _=>Iff.rfl⟩
 | n+1,h,hs=>by
   obtain⟨l1,e1,n1,m1⟩:=XH hOk f n (by omega) fun i hi=>hs i (by omega)
   obtain⟨l2,e2,n2,m2⟩:=go_piece (hOk (f+n) (by omega)) (hOk (f+n+1) (by omega)) (hs n (by omega)) n1 m1
   exact⟨l2,by rw[Yl,XI,e1,Option.bind_some];exact e2,n2,m2⟩
theorem perm_back {z:Zn}(hv:Ok z){l:List Rec}(hn:l.Nodup)(hm:∀x,x∈l↔x∈q8 z.l):(l ++ [q9 z]).Perm z.l:=by
 have hs:=yz hv
 refine(List.perm_ext_iff_of_nodup ?_ (zn.uG hv)).2 fun x=>?_
 ·refine List.nodup_append.2 ⟨hn,by simp,fun x hx y hy e=>?_⟩
  rw[List.mem_singleton.1 hy]at e
  subst e
  exact(kL.1 ((hm _).1 hx)).2 hs.2.2.1
 ·rw[List.mem_append,hm,kL,List.mem_singleton]
  constructor
  ·rintro(h | h)
   ·exact h.1
   ·rw[h];exact hs.2.1
  ·intro h
   by_cases h6:x.typ=6
   ·right
    have h1:x∈zn.qE z.l (qw z.ap,6):=zn.jI.2 ⟨h,(Kw hv h).1 h6⟩
    rw[hs.1]at h1
    exact List.mem_singleton.1 h1
   ·exact .inl ⟨h,h6⟩
theorem V7 {z:Zn}(hv:Ok z):(q9 z :: q8 z.l).Perm z.l:=
 (List.perm_append_singleton (q9 z) (q8 z.l)).symm.trans (perm_back hv ((zn.uG hv).sublist List.filter_sublist) fun _=>Iff.rfl)
end tr
end Go.Proofs.YtpcmilhjpmlbpaaGreatDoor
