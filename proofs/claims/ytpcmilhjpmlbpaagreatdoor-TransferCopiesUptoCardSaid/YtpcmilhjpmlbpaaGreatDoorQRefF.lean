import Derived.Test.YtpcmilhjpmlbpaaGreatDoorQZoneP
import Derived.Test.YtpcmilhjpmlbpaaGreatDoorQRefC
import Derived.Test.YtpcmilhjpmlbpaaGreatDoorQZoneC
import Derived.Laws.OwnMore
import Derived.Lib.Bytealg
set_option maxRecDepth 100000
set_option maxHeartbeats 2000000
namespace Go.Proofs.YtpcmilhjpmlbpaaGreatDoor
open Go.RowKit Go.Shelf Go.WideMaps nm od
namespace zn
def owned (q:ByteArray)(l:List Rec):List Rec:=l.map fun r=>{ r with owner:=q}
theorem fold_eq {a b:ByteArray}{x y:List (List UInt8)}(ha:rows a=some x)(hb:rows b=some y):qw a=qw b↔je x=je y:=by
 constructor
 ·intro h
  have h1:=vS ha
  rw[h,vS hb]at h1
  exact(Option.some.inj h1).symm
 ·intro h
  rw[uN ha,uN hb,h]
theorem zO {a b:ByteArray}(ha:qj a=true)(hb:qj b=true):qF a b=true↔qw a=qw b:=by
 obtain⟨x,hx⟩:=yL ha
 obtain⟨y,hy⟩:=yL hb
 rw[JO hx hy,decide_eq_true_eq,fold_eq hx hy]
theorem Qr (x:List (List UInt8)):(je x).length=x.length:=by unfold je;simp
theorem ups_within {r n:ByteArray}{x y:List (List UInt8)}(hr:rows r=some x)(hn:rows n=some y){c:Nat}(hc:c≤y.length)(hcx:c≤x.length):qw n∈ups c (qw r)↔zx r n=true:=by
 have h1:=vS hr
 have hl:(je x).length=x.length:=Qr x
 rw[QG hr hn,uN hn]
 unfold ups
 rw[xD h1,hl,Int.toNat_natCast,List.mem_map]
 constructor
 ·rintro⟨i,hi,e⟩
  rw[List.mem_range]at hi
  have h2:=(kH h1 (k:=(x.length:Int)-i) (by omega) (by omega)).2
  rw[e,← uN hn,vS hn,hl]at h2
  have h3:=Option.some.inj h2
  have h4:=congrArg List.length h3
  rw[List.length_drop,Qr,hl]at h4
  refine⟨by omega,?_⟩
  rw[h3]
  congr 1
  omega
 ·rintro⟨h2,h3⟩
  refine⟨x.length-y.length,List.mem_range.2 (by omega),?_⟩
  rw[(kH h1 (by omega) (by omega)).1,hl,← h3]
  congr 2
  omega
structure Valid (qf:ByteArray)(L:List Rec):Prop where
 ap:qj qf=true
 small:L.length≤2000
 each:∀r∈L,qj r.owner=true∧jq r=false∧zx r.owner qf=true
 rules:zB qf L=none
theorem Valid.named {qf:ByteArray}{L:List Rec}(h:Valid qf L):jy L:=fun r hr=>(h.each r hr).1
end zn
end Go.Proofs.YtpcmilhjpmlbpaaGreatDoor
namespace Go.Proofs.YtpcmilhjpmlbpaaGreatDoor
open Go.RowKit Go.Shelf Go.WideMaps nm od
namespace zn
theorem jI {L:List Rec}{κ:Key}{r:Rec}:r∈qE L κ↔r∈L∧zV r=κ:=by
 unfold qE
 rw[List.mem_filter,decide_eq_true_eq]
theorem type_of {r:Rec}(h:jq r=false):1≤r.typ∧r.typ≤65535∧r.typ≠255:=by
 unfold jq at h
 simp only[Bool.not_eq_false',Bool.and_eq_true,decide_eq_true_eq]at h
 have h1:=h.2
 unfold dt.yT at h1
 cases hh:dt.yo r.typ
 ·rw[hh]at h1;simp at h1
 ·unfold dt.yo at hh
  simp only[Bool.and_eq_true,Bool.or_eq_true,decide_eq_true_eq]at hh
  omega
theorem uH {qf:ByteArray}{L:List Rec}(h:zB qf L=none):
 zh (jk L) L.length=none∧zh (xu qf L) L.length=none∧xq L≠0∧qE L (qw qf,2)≠[]∧zh (atB L Qy) L.length=none∧zh (atB L (Zy (j6 L))) L.length=none∧
  zh (atB L (vo (qw qf) (qE L) (zt L))) L.length=none∧zh (atB L (xX (qE L))) L.length=none:=by
 unfold zB at h
 split at h
 ·cases h
 ·rename_i h1
  split at h
  ·cases h
  ·rename_i h2
   split at h
   ·cases h
   ·rename_i h3
    split at h
    ·cases h
    ·rename_i h4
     split at h
     ·cases h
     ·rename_i h5
      split at h
      ·cases h
      ·rename_i h6
       split at h
       ·cases h
       ·rename_i h7
        split at h
        ·cases h
        ·rename_i h8
         exact⟨h1,h2,h3,fun e=>h4 (by rw[e];rfl),h5,h6,h7,h8⟩
theorem at_all {L:List Rec}{bad:Rec→Bool}(h:zh (atB L bad) L.length=none):∀r∈L,bad r=false:=fun r hr=>by
 obtain⟨k,hk,rfl⟩:=List.getElem_of_mem hr
 have:=Zv h k hk
 rwa [uf hk]at this
end zn
end Go.Proofs.YtpcmilhjpmlbpaaGreatDoor
namespace Go.Proofs.YtpcmilhjpmlbpaaGreatDoor
open Go.RowKit Go.Shelf Go.WideMaps nm od
namespace zn
theorem firstB_iff {bad:Nat→Bool}{n:Nat}:zh bad n=none↔∀j,j<n→bad j=false:=⟨Zv,uO⟩
theorem uD {L:List Rec}{bad:Rec→Bool}:zh (atB L bad) L.length=none↔∀r∈L,bad r=false:=by
 refine⟨at_all,fun h=>uO fun j hj=>?_⟩
 rw[uf hj]
 exact h _ (List.getElem_mem hj)
theorem mem_take_at {L:List Rec}{i j:Nat}(hij:i<j)(hj:j<L.length):L[i]'(by omega)∈L.take j:=by
 rw[List.mem_take_iff_getElem]
 exact⟨i,by omega,rfl⟩
theorem twice_iff {L:List Rec}:zh (jk L) L.length=none↔L.Pairwise (fun a b=>yu a≠yu b):=by
 refine⟨uP,fun h=>uO fun j hj=>?_⟩
 rw[List.pairwise_iff_getElem]at h
 unfold jk
 rw[List.getElem?_eq_getElem hj]
 simp only[decide_eq_false_iff_not,Nat.not_lt,Nat.le_zero_eq]
 unfold uy
 rw[List.length_eq_zero_iff,List.filter_eq_nil_iff]
 intro r hr
 rw[List.mem_take_iff_getElem]at hr
 obtain⟨i,hi,rfl⟩:=hr
 have:=h i j (by omega) hj (by omega)
 simpa using this
theorem soaC_fold (L:List Rec):∀c:Nat,L.foldl (fun c r=>KV r c) c=c+(L.filter fun r=>decide (r.typ=6)).length:=by
 induction L with
 | nil=>intro c;rfl
 | cons r L ih=>
   intro c
   rw[List.foldl_cons,ih,List.filter_cons]
   unfold KV
   by_cases h:r.typ=6
   ·simp[h];omega
   ·simp[h]
theorem Ka (L:List Rec):xq L=(L.filter fun r=>decide (r.typ=6)).length:=by
 unfold xq
 rw[soaC_fold]
 omega
theorem QL {qf:ByteArray}{L:List Rec}:zh (xu qf L) L.length=none↔L.Pairwise (fun a b=>¬(a.typ=6∧b.typ=6))∧∀r∈L,r.typ=6→qF r.owner qf=true:=by
 rw[firstB_iff]
 constructor
 ·intro h
  refine⟨?_,fun r hr h6=>?_⟩
  ·rw[List.pairwise_iff_getElem]
   rintro i j hi hj hij ⟨e1,e2⟩
   have:=h j hj
   unfold xu at this
   rw[List.getElem?_eq_getElem hj]at this
   unfold YK at this
   simp only[e2,decide_true,Bool.true_and,Bool.or_eq_false_iff,decide_eq_false_iff_not,Nat.not_lt,Nat.le_zero_eq]at this
   have h2:=this.1
   rw[Ka,List.length_eq_zero_iff,List.filter_eq_nil_iff]at h2
   have:=h2 _ (mem_take_at hij hj)
   simp[e1]at this
  ·obtain⟨j,hj,rfl⟩:=List.getElem_of_mem hr
   have:=h j hj
   unfold xu at this
   rw[List.getElem?_eq_getElem hj]at this
   unfold YK at this
   simp only[h6,decide_true,Bool.true_and,Bool.or_eq_false_iff,Bool.not_eq_false']at this
   exact this.2
 ·rintro⟨h1,h2⟩ j hj
  unfold xu
  rw[List.getElem?_eq_getElem hj]
  show YK qf (xq (L.take j)) L[j]=false
  unfold YK
  by_cases h6:L[j].typ=6
  ·rw[h2 _ (List.getElem_mem hj) h6]
   have:xq (L.take j)=0:=by
    rw[Ka,List.length_eq_zero_iff,List.filter_eq_nil_iff]
    intro r hr
    rw[List.mem_take_iff_getElem]at hr
    obtain⟨i,hi,rfl⟩:=hr
    rw[List.pairwise_iff_getElem]at h1
    intro e
    exact h1 i j (by omega) hj (by omega) ⟨by simpa using e,h6⟩
   rw[this]
   simp
  ·simp[h6]
theorem YW {L:List Rec}:xq L=0↔∀r∈L,r.typ≠6:=by
 rw[Ka,List.length_eq_zero_iff,List.filter_eq_nil_iff]
 simp
theorem rows_nil {L L':List Rec}(hp:L.Perm L')(κ:Key):(qE L κ).length=(qE L' κ).length:=(hp.filter _).length_eq
theorem all_perm {L L':List Rec}(hp:L.Perm L'):j6 L=j6 L':=by
 funext n
 unfold j6
 rw[(hp.filter _).length_eq]
theorem below_perm {L L':List Rec}(hp:L.Perm L'):zt L=zt L':=by
 funext n
 unfold zt
 rw[((hp.flatMap_right _).filter _).length_eq]
theorem ttl_iff {L:List Rec}:(∀r∈L,xX (qE L) r=false)↔∀r∈L,∀r'∈L,r.typ≠46→zV r=zV r'→r.ttl=r'.ttl:=by
 have hd:∀r∈L,∃h∈L,zV h=zV r∧((qE L (zV r)).headD r)=h:=fun r hr=>by
  have hm:r∈qE L (zV r):=jI.2 ⟨hr,rfl⟩
  cases hc:qE L (zV r) with
  | nil=>rw[hc]at hm;simp at hm
  | cons h l=>
    have:h∈qE L (zV r):=by rw[hc];simp
    exact⟨h,(jI.1 this).1,(jI.1 this).2,rfl⟩
 constructor
 ·intro h r hr r' hr' ht hk
  have ht':r'.typ≠46:=by
   have:r.typ=r'.typ:=congrArg Prod.snd hk
   rwa [← this]
  have h1:=h r hr
  have h2:=h r' hr'
  unfold xX at h1 h2
  simp only[ht,ht',decide_false,Bool.not_false,Bool.true_and,Bool.not_eq_false',decide_eq_true_eq]at h1 h2
  obtain⟨a,_,_,ea⟩:=hd r hr
  obtain⟨b,_,_,eb⟩:=hd r' hr'
  rw[ea]at h1
  rw[eb]at h2
  have:a=b:=by
   rw[← ea,← eb,hk]
   cases hc:qE L (zV r') with
   | nil=>
     have hm:r'∈qE L (zV r'):=jI.2 ⟨hr',rfl⟩
     rw[hc]at hm;simp at hm
   | cons=>rfl
  rw[h1,h2,this]
 ·intro h r hr
  obtain⟨a,ha,hk,e⟩:=hd r hr
  unfold xX
  by_cases ht:r.typ=46
  ·simp[ht]
  ·rw[e,h r hr a ha ht hk.symm]
   simp
open Classical in
noncomputable def codeC (qf:ByteArray) (l:List Rec):Option Int:=
 if qj qf=false then some 1 else if 2000<l.length then some 20
 else if ¬(∀r∈l,jq r=false) then some 8 else if ¬(∀r∈l,(!zx r.owner qf)=false) then some 5
 else if ¬l.Pairwise (fun a b=>yu a≠yu b) then some 19
 else if ¬(l.Pairwise (fun a b=>¬(a.typ=6∧b.typ=6))∧∀r∈l,r.typ=6→qF r.owner qf=true) then some 15
 else if(∀r∈l,r.typ≠6) then some 15
 else if(qE l (qw qf,2)).length=0 then some 16
 else if ¬(∀r∈l,Qy r=false) then some 22 else if ¬(∀r∈l,Zy (j6 l) r=false) then some 17
 else if ¬(∀r∈l,vo (qw qf) (qE l) (zt l) r=false) then some 18
 else if ¬(∀r∈l,∀r'∈l,r.typ≠46→zV r=zV r'→r.ttl=r'.ttl) then some 21 else none
theorem code_of (qf:ByteArray)(l:List Rec):(yx qf l).map Prod.snd=codeC qf l:=by
 unfold yx codeC
 by_cases h1:qj qf=false
 ·rw[if_pos h1,if_pos h1];rfl
 rw[if_neg h1,if_neg h1]
 by_cases h2:2000<l.length
 ·rw[if_pos h2,if_pos h2];rfl
 rw[if_neg h2,if_neg h2]
 unfold yZ
 cases h3:zh (atB l jq) l.length with
 | some k=>rw[if_pos (fun h=>by rw[uD.2 h]at h3;cases h3)];rfl
 | none=>
   rw[if_neg (not_not_intro (uD.1 h3))]
   cases h4:zh (atB l fun r=>!zx r.owner qf) l.length with
   | some k=>rw[if_pos (fun h=>by rw[uD.2 h]at h4;cases h4)];rfl
   | none=>
     rw[if_neg (not_not_intro (uD.1 h4))]
     show(zB qf l).map Prod.snd=_
     unfold zB
     cases h5:zh (jk l) l.length with
     | some k=>rw[if_pos (fun h=>by rw[twice_iff.2 h]at h5;cases h5)];rfl
     | none=>
       rw[if_neg (not_not_intro (twice_iff.1 h5))]
       cases h6:zh (xu qf l) l.length with
       | some k=>rw[if_pos (fun h=>by rw[QL.2 h]at h6;cases h6)];rfl
       | none=>
         rw[if_neg (not_not_intro (QL.1 h6))]
         by_cases h7:xq l=0
         ·rw[if_pos (YW.1 h7)]
          simp only[if_pos h7]
          rfl
         ·rw[if_neg (fun h=>h7 (YW.2 h))]
          simp only[if_neg h7]
          by_cases h8:(qE l (qw qf,2)).length=0
          ·rw[if_pos h8,if_pos h8];rfl
          ·rw[if_neg h8,if_neg h8]
           cases h9:zh (atB l Qy) l.length with
           | some k=>rw[if_pos (fun h=>by rw[uD.2 h]at h9;cases h9)];rfl
           | none=>
             rw[if_neg (not_not_intro (uD.1 h9))]
             cases h10:zh (atB l (Zy (j6 l))) l.length with
             | some k=>rw[if_pos (fun h=>by rw[uD.2 h]at h10;cases h10)];rfl
             | none=>
               rw[if_neg (not_not_intro (uD.1 h10))]
               cases h11:zh (atB l (vo (qw qf) (qE l) (zt l))) l.length with
               | some k=>rw[if_pos (fun h=>by rw[uD.2 h]at h11;cases h11)];rfl
               | none=>
                 rw[if_neg (not_not_intro (uD.1 h11))]
                 cases h12:zh (atB l (xX (qE l))) l.length with
                 | some k=>rw[if_pos (fun h=>by rw[uD.2 (ttl_iff.2 h)]at h12;cases h12)];rfl
                 | none=>rw[if_neg (not_not_intro (ttl_iff.1 (uD.1 h12)))];rfl
theorem bad5_perm {L L':List Rec}(hp:L.Perm L')(low:ByteArray)(r:Rec):vo low (qE L) (zt L) r=vo low (qE L') (zt L') r:=by
 unfold vo
 rw[rows_nil hp,below_perm hp]
theorem codeC_perm {qf:ByteArray}{l l':List Rec}(hp:l.Perm l'):codeC qf l=codeC qf l':=by
 have e:∀P:Rec→Prop,(∀r∈l,P r)↔(∀r∈l',P r):=fun P=>⟨fun h r hr=>h r (hp.mem_iff.2 hr),fun h r hr=>h r (hp.mem_iff.1 hr)⟩
 unfold codeC
 have e1:l.Pairwise (fun a b=>yu a≠yu b)↔l'.Pairwise (fun a b=>yu a≠yu b):=hp.pairwise_iff (fun h=>Ne.symm h)
 have e2:l.Pairwise (fun a b:Rec=>¬(a.typ=6∧b.typ=6))↔l'.Pairwise (fun a b=>¬(a.typ=6∧b.typ=6)):=hp.pairwise_iff (fun h k=>h ⟨k.2,k.1⟩)
 have e3:(∀r∈l,∀r'∈l,r.typ≠46→zV r=zV r'→r.ttl=r'.ttl)↔(∀r∈l',∀r'∈l',r.typ≠46→zV r=zV r'→r.ttl=r'.ttl):=by
  rw[e]
  exact forall_congr' fun r=>forall_congr' fun _=>e _
 simp only[e,e1,e2,hp.length_eq,rows_nil hp,all_perm hp,bad5_perm hp]
theorem newE_perm {qf:ByteArray}{l l':List Rec}(hp:l.Perm l'):(yx qf l).map Prod.snd=(yx qf l').map Prod.snd:=by rw[code_of,code_of,codeC_perm hp]
theorem newE_none {qf:ByteArray}{l:List Rec}:yx qf l=none↔(yx qf l).map Prod.snd=none:=by simp
theorem Yi {qf:ByteArray}{l:List Rec}(h:yx qf l=none):Valid qf l:=by
 unfold yx at h
 split at h
 ·cases h
 ·rename_i h1
  split at h
  ·cases h
  ·rename_i h2
   split at h
   ·cases h
   ·rename_i h3
    refine⟨by simpa using h1,by omega,?_,h⟩
    unfold yZ at h3
    split at h3
    ·cases h3
    ·rename_i h4
     split at h3
     ·cases h3
     ·rename_i h5
      intro r hr
      have a1:=at_all h4 r hr
      refine⟨?_,a1,by simpa using at_all h5 r hr⟩
      unfold jq at a1
      simp only[Bool.not_eq_false',Bool.and_eq_true]at a1
      exact a1.1.1.1.1
theorem newE_of {qf:ByteArray}{l l':List Rec}(hp:l.Perm l')(h:yx qf l=none):yx qf l'=none:=by
 rw[newE_none,← newE_perm hp,← newE_none];exact h
end zn
end Go.Proofs.YtpcmilhjpmlbpaaGreatDoor
namespace Go.Proofs.YtpcmilhjpmlbpaaGreatDoor
open Go.RowKit Go.Shelf nm
namespace nm
end nm
end Go.Proofs.YtpcmilhjpmlbpaaGreatDoor
namespace Go.Proofs.YtpcmilhjpmlbpaaGreatDoor
open Go.RowKit Go.Shelf nm
namespace nm
theorem Xo {s:ByteArray}{ls:List (List UInt8)}(h:rows s=some ls):yN (j5 s)=lbs (je ls):=by
 have h1:=zS (Kh h)
 unfold yN
 rw[if_pos (Qx (Kh h)),h1.2.2.2,od.Yu _ _ h1.2.1]
 rfl
theorem Us:∀x y:List UInt8,(Op.bytesLess x y=true→Lib.compareBytes x y= -1)∧((x == y)=true→Lib.compareBytes x y=0)∧(Op.bytesLess x y=false→(x == y)=false→Lib.compareBytes x y=1)
 | [],[]=>by simp[Op.bytesLess,Lib.compareBytes]
 | [],_ :: _=>by simp[Op.bytesLess,Lib.compareBytes]
 | _ :: _,[]=>by simp[Op.bytesLess,Lib.compareBytes]
 | a :: x,b :: y=>by
   obtain⟨h1,h2,h3⟩:=Us x y
   unfold Lib.compareBytes
   by_cases hab:a=b
   ·subst hab
    have hlt:¬a<a:=UInt8.lt_irrefl a
    simp only[Op.bytesLess,hlt,if_false,decide_false,Bool.false_or,beq_self_eq_true,Bool.true_and,List.cons_beq_cons]
    exact⟨h1,h2,h3⟩
   ·have hb:(a == b)=false:=by simpa using hab
    by_cases hlt:a<b
    ·simp[Op.bytesLess,hlt,hb]
    ·have h':b<a:=UInt8.lt_of_le_of_ne (UInt8.not_lt.1 hlt) (Ne.symm hab)
     simp[Op.bytesLess,hlt,hb,h']
def Z7 (X Y:List (List UInt8))(i j:Nat):Int:=yc (lbs ((je X).take i)).reverse (lbs ((je Y).take j)).reverse
theorem cmpTo_zz (X Y:List (List UInt8)):Z7 X Y 0 0=0:=by simp[Z7,lbs,yc]
theorem cmpTo_zs (X Y:List (List UInt8)){j:Nat}(h:j<Y.length):Z7 X Y 0 (j+1)= -1:=by
 unfold Z7
 rw[uX Y h,List.reverse_append]
 simp[lbs,yc]
theorem cmpTo_sz (X Y:List (List UInt8)){i:Nat}(h:i<X.length):Z7 X Y (i+1) 0=1:=by
 unfold Z7
 rw[uX X h,List.reverse_append]
 simp[lbs,yc]
theorem cmpTo_ss (X Y:List (List UInt8)){i j:Nat}(h:i<X.length)(h':j<Y.length):Z7 X Y (i+1) (j+1)=if Lib.compareBytes (j5 ⟨X[i].toArray⟩).data.toList (j5 ⟨Y[j].toArray⟩).data.toList=0 then Z7 X Y i j else Lib.compareBytes (j5 ⟨X[i].toArray⟩).data.toList (j5 ⟨Y[j].toArray⟩).data.toList:=by
 unfold Z7
 rw[uX X h,uX Y h',List.reverse_append,List.reverse_append]
 rfl
theorem compare_of {a b:ByteArray}{X Y:List (List UInt8)}(ha:rows a=some X)(hb:rows b=some Y):zg a b=Z7 X Y X.length Y.length:=by
 unfold zg Z7
 have e:∀Z:List (List UInt8),(je Z).take Z.length=je Z:=fun Z=>List.take_of_length_le (by unfold je;simp)
 rw[if_pos ⟨Qx ha,Qx hb⟩,Xo ha,Xo hb,e,e]
end nm
def Vd:Value→Nat
 | .slice _ n _=>n
 | _=>0
theorem rcompare_any (a b:ByteArray)(ha:a.size≤1099511627776)(hb:b.size≤1099511627776)(w:World):Calls Tryz.prog 176 #[.string a,.string b] w fun e w'=>e= .returned (.int .i64 (zg a b))∧Below w.heap.size w w':=by
 cases hra:rows a with
 | none=>
   have hf:zg a b=0:=by unfold zg;rw[if_neg];intro h;rw[yX,hra]at h;exact absurd h.1 (by simp)
   have HF:=Lib.hid hf;have HR:=Lib.hid hra
   clear hf hra
   go_enter Tryz.func176,Tryz.ntmps176
   go_wp2_with fail
   refine(yh a ha _).mono ?_
   rintro e w2 ⟨hB,v,rfl,_⟩
   have HB:=Lib.hid hB
   clear hB
   rw[HR.out]
   go_wp2_with fail
   refine(yh b hb _).mono ?_
   rintro e w3 ⟨hB3,v3,rfl,_⟩
   have HB3:=Lib.hid (HB.out.trans (hB3.mono HB.out.size))
   clear hB3
   go_wp2_with fail
   go_ret
   exact⟨qL HF.out.symm,HB3.out⟩
 | some X=>
   cases hrb:rows b with
   | none=>
     have hf:zg a b=0:=by unfold zg;rw[if_neg];intro h;rw[yX b,hrb]at h;exact absurd h.2 (by simp)
     have HF:=Lib.hid hf;have HR:=Lib.hid hra;have HR2:=Lib.hid hrb
     clear hf hra hrb
     go_enter Tryz.func176,Tryz.ntmps176
     go_wp2_with fail
     refine(yh a ha _).mono ?_
     rintro e w2 ⟨hB,v,rfl,_⟩
     have HB:=Lib.hid hB
     clear hB
     rw[HR.out]
     go_wp2_with fail
     refine(yh b hb _).mono ?_
     rintro e w3 ⟨hB3,v3,rfl,_⟩
     have HB3:=Lib.hid (HB.out.trans (hB3.mono HB.out.size))
     clear hB3
     rw[HR2.out]
     go_wp2_with fail
     go_ret
     exact⟨qL HF.out.symm,HB3.out⟩
   | some Y=>
     obtain⟨x1,x2,x3⟩:=Qb hra
     obtain⟨y1,y2,y3⟩:=Qb hrb
     have hf:=compare_of hra hrb
     have HF:=Lib.hid hf;have HR:=Lib.hid hra;have HR2:=Lib.hid hrb;have HX3:=Lib.hid x3;have HY3:=Lib.hid y3
     clear hf hra hrb x2 y2 x3 y3
     go_enter Tryz.func176,Tryz.ntmps176
     go_wp2_with fail
     refine(yh a ha _).mono ?_
     rintro e w2 ⟨hB,v,rfl,hv⟩
     obtain⟨ax,cx,rfl,hcx⟩:=qm (hv X HR.out)
     have hrowx:=Qd (w:=w2) (ss:=lbs X) (by rw[yQ];exact hv X HR.out)
     have HB:=Lib.hid hB
     clear hB hv
     rw[HR.out]
     go_wp2_with fail
     refine(yh b hb _).mono ?_
     rintro e w3 ⟨hB3,v3,rfl,hv3⟩
     obtain⟨ay,cy,rfl,hcy⟩:=qm (hv3 Y HR2.out)
     have hrowy:=Qd (w:=w3) (ss:=lbs Y) (by rw[yQ];exact hv3 Y HR2.out)
     have hrowx:=hrowx.below hB3
     have HB3:=Lib.hid (HB.out.trans (hB3.mono HB.out.size))
     have HROWX:=Lib.hid hrowx;have HROWY:=Lib.hid hrowy
     clear hB3 hv3 hrowx hrowy
     have hs3:=HB3.out.size
     rw[HR2.out]
     go_wp2_with fail
     go_loopw [5,7,9,10] (fun xv yv _ _ wr=>∃i j:Nat,i≤X.length∧j≤Y.length∧xv= .slice ax i cx∧yv= .slice ay j cy∧zg a b=Z7 X Y i j∧Below w3.heap.size w3 wr) (fun xv _ _ _ _=>Vd xv)
     case atStart=>exact⟨X.length,Y.length,Nat.le_refl _,Nat.le_refl _,rfl,rfl,HF.out,Below.refl _ _⟩
     case round=>
      obtain⟨i,j,hi,hj,rfl,rfl,hcmp,hB⟩:=hrel
      have HCMP:=Lib.hid hcmp;have HBr:=Lib.hid hB
      clear hcmp hB
      rcases i with _ | i
      ·rcases j with _ | j
       ·have HN:=Lib.hid (HCMP.out.trans (cmpTo_zz X Y))
        have HE:=Lib.hid (HB3.out.trans (HBr.out.mono hs3))
        go_wp2_with fail
        go_ret
        exact⟨qL HN.out.symm,HE.out⟩
       ·have HN:=Lib.hid (HCMP.out.trans (cmpTo_zs X Y (j:=j) (by omega)))
        have HE:=Lib.hid (HB3.out.trans (HBr.out.mono hs3))
        go_wp2_with fail
        go_ret
        exact⟨qL HN.out.symm,HE.out⟩
      ·rcases j with _ | j
       ·have HN:=Lib.hid (HCMP.out.trans (cmpTo_sz X Y (i:=i) (by omega)))
        have HE:=Lib.hid (HB3.out.trans (HBr.out.mono hs3))
        go_wp2_with fail
        go_ret
        exact⟨qL HN.out.symm,HE.out⟩
       ·obtain⟨ax',cx',hvx,hcellx⟩:=HROWX.out
        obtain⟨ay',cy',hvy,hcelly⟩:=HROWY.out
        simp only[Value.slice.injEq]at hvx hvy
        obtain⟨rfl,hvx1,rfl⟩:=hvx
        obtain⟨rfl,hvy1,rfl⟩:=hvy
        clear hvx1 hvy1
        obtain⟨bx,ox,rfl,hlx,cellx⟩:=hcellx i (by rw[yQ];omega)
        obtain⟨by',oy,rfl,hly,celly⟩:=hcelly j (by rw[yQ];omega)
        rw[lbs_get (by omega)]at cellx celly
        have hcmp:=HCMP.out.trans (cmpTo_ss X Y (i:=i) (j:=j) (by omega) (by omega))
        have hxs:(⟨X[i].toArray⟩:ByteArray).size≤63:=(HX3.out _ (List.getElem_mem (by omega))).2
        have hys:(⟨Y[j].toArray⟩:ByteArray).size≤63:=(HY3.out _ (List.getElem_mem (by omega))).2
        generalize (⟨X[i].toArray⟩:ByteArray)=p at cellx hcmp hxs
        generalize (⟨Y[j].toArray⟩:ByteArray)=q at celly hcmp hys
        have e1:=qh ((HBr.out.cell (p:=⟨bx,ox+i,none⟩) hlx).trans cellx)
        have e2:=qh ((HBr.out.cell (p:=⟨by',oy+j,none⟩) hly).trans celly)
        have HN:=Lib.hid hcmp
        have wi:IntKind.i64.wrap (i:Int)=(i:Int):=IntWalk.i64_in _ (by omega)
        have wj:IntKind.i64.wrap (j:Int)=(j:Int):=IntWalk.i64_in _ (by omega)
        have lti:(i:Int)<(i:Int)+1:=by omega
        have ltj:(j:Int)<(j:Int)+1:=by omega
        have lci:(i:Int)≤(cx:Int):=by omega
        have lcj:(j:Int)≤(cy:Int):=by omega
        have nci:¬cx=0:=by omega
        have ncj:¬cy=0:=by omega
        have CP:Hid (∀g,Calls Tryz.prog 146 #[.string p] (gw wr g) fun e w''=>e= .returned (.string (j5 p))∧∃g',w''=gw wr g'):=Lib.hid fun g=>qU (VS p (by omega) _)
        have CQ:Hid (∀g,Calls Tryz.prog 146 #[.string q] (gw wr g) fun e w''=>e= .returned (.string (j5 q))∧∃g',w''=gw wr g'):=Lib.hid fun g=>qU (VS q (by omega) _)
        clear hcmp hcellx hcelly cellx celly
        go_wp2_with fail
        refine ql (by kernel_rfl) (by kernel_rfl) ?_
        repeat (refine wpQuiet_step (fun K hK=>?_);go_simp;(try simp only[wi,wj]);first | (refine hK _ ?_;clear hK K) | (apply Exists.intro;refine⟨fun _=>?_,hK _ ?_⟩;(first | (go_at_call 146;first | with_reducible exact CP.out _ | with_reducible exact CQ.out _));clear hK K))
        refine wpQuiet_nil ?_
        intro W hW
        have hBW:Below wr.heap.size wr W:=by obtain⟨g,rfl⟩:=hW;exact qC wr g
        have HBW:=Lib.hid (HBr.out.trans (hBW.mono HBr.out.size))
        clear hW hBW e1 e2 CP CQ
        generalize j5 p=p' at HN
        generalize j5 q=q' at HN
        obtain⟨c1,c2,c3⟩:=Us p'.toList q'.toList
        rw[← Lib.toList_data,← Lib.toList_data]at HN
        have HE:=Lib.hid (HB3.out.trans (HBW.out.mono hs3))
        cases hl:Op.bytesLess p'.toList q'.toList
        ·cases he:p'.toList == q'.toList
         ·have hn:=HN.out
          rw[c3 hl he,if_neg (by decide)]at hn
          have HN':=Lib.hid hn
          have he':(!(p'.toList == q'.toList))=true:=by rw[he];rfl
          clear HN c1 c2 c3 hn
          go_wp2_with fail
          go_ret
          exact⟨qL HN'.out.symm,HE.out⟩
         ·have hn:=HN.out
          rw[c2 he,if_pos rfl]at hn
          have HN':=Lib.hid hn
          have he':(!(p'.toList == q'.toList))=false:=by rw[he];rfl
          clear HN c1 c2 c3 hn
          go_wp2_with fail
          refine ql (by kernel_rfl) (by kernel_rfl) ?_
          repeat (refine wpQuiet_step (fun K hK=>?_);go_simp;(try simp only[wi,wj]);first | (refine hK _ ?_;clear hK K))
          refine wpQuiet_nil ?_
          intro W2 hW2
          have xB:Below W.heap.size W W2:=by obtain⟨g,rfl⟩:=hW2;exact qC W g
          have xQ:=Lib.hid (HBW.out.trans (xB.mono HBW.out.size))
          clear hW2 xB
          go_wp2_with fail
          go_roundw
          case rel=>
           exact⟨i,j,by omega,by omega,rfl,rfl,HN'.out,xQ.out⟩
          case measure=>simp[Vd]
        ·have hn:=HN.out
         rw[c1 hl,if_neg (by decide)]at hn
         have HN':=Lib.hid hn
         clear HN c1 c2 c3 hn
         go_wp2_with fail
         go_ret
         exact⟨qL HN'.out.symm,HE.out⟩
end Go.Proofs.YtpcmilhjpmlbpaaGreatDoor
