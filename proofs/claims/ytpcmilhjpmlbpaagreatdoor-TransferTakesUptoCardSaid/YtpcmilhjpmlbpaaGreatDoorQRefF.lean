import Derived.Test.YtpcmilhjpmlbpaaGreatDoorQZoneP
import Derived.Test.YtpcmilhjpmlbpaaGreatDoorQRefC
import Derived.Laws.OwnMore
import Derived.Lib.Bytealg
set_option maxRecDepth 100000
set_option maxHeartbeats 2000000
namespace Go.Proofs.YtpcmilhjpmlbpaaGreatDoor
open Go.RowKit Go.Shelf Go.WideMaps nm od
namespace zn
def owned (q:ByteArray)(l:List Rec):List Rec:=l.map λr=>{ r with owner:=q}
theorem fold_eq {a b:ByteArray}{x y:List (List UInt8)}(ha:rows a=some x)(hb:rows b=some y):qy a=qy b↔jH x=jH y:=by
 constructor
 ·intro h;have h1:=vL ha;rw[h,vL hb]at h1;exact(Hr h1).symm
 ·intro h;rw[vW ha,vW hb,h]
theorem zP {a b:ByteArray}(ha:qo a=true)(hb:qo b=true):qG a b=true↔qy a=qy b:=by
 obtain⟨x,hx⟩:=yO ha;obtain⟨y,hy⟩:=yO hb;rw[Ud hx hy,H7,fold_eq hx hy]
theorem Zc (x:List (List UInt8)):(jH x).length=x.length:=by unfold jH;simp
theorem ups_within {r n:ByteArray}{x y:List (List UInt8)}(hr:rows r=some x)(hn:rows n=some y){c:Nat}(hc:c<=y.length)(hcx:c<=x.length):qy n∈ups c (qy r)↔zI r n=true:=by
 have h1:=vL hr;have hl:(jH x).length=x.length:=Zc x;rw[Zv hr hn,vW hn];unfold ups;rw[Qw h1,hl,Int.toNat_natCast,List.mem_map];constructor
 ·rintro⟨i,hi,e⟩;rw[List.mem_range]at hi;have h2:=(uw h1 (k:=(x.length:Int)-i) (by omega) (by omega)).2;rw[e,<- vW hn,vL hn,hl]at h2;have h3:=Hr h2;have h4:=congrArg List.length h3;rw[He,Zc,hl]at h4;refine⟨by omega,?_⟩;rw[h3]
  congr 1
  omega
 ·rintro⟨h2,h3⟩;refine⟨x.length-y.length,List.mem_range.2 (by omega),?_⟩;rw[(uw h1 (by omega) (by omega)).1,hl,<- h3]
  congr 2
  omega
theorem fold_none {n:ByteArray}(h:qo n=false):qy n=ByteArray.empty:=by unfold qy;rw[if_neg (by rw[h];simp)]
theorem empty_check:qo ByteArray.empty=false:=by decide
structure Valid (qf:ByteArray)(L:List Rec):Prop where
 ap:qo qf=true
 small:L.length<=2000
 each:∀r∈L,qo r.owner=true/\jT r=false/\zI r.owner qf=true
 rules:zS qf L=none
theorem Valid.named {qf:ByteArray}{L:List Rec}(h:Valid qf L):jN L:=λr hr=>(h.each r hr).1
end zn
namespace zn
theorem kD {L:List Rec}{κ:Key}{r:Rec}:r∈qJ L κ↔r∈L/\yh r=κ:=by
 unfold qJ;rw[List.mem_filter,H7]
theorem type_of {r:Rec}(h:jT r=false):1<=r.typ/\r.typ<=65535/\r.typ≠255:=by
 unfold jT at h;simp only[Bool.not_eq_false',gX,H7]at h;have h1:=h.2;unfold dt.jh at h1
 cases hh:dt.yH r.typ
 ·rw[hh]at h1;simp at h1
 ·unfold dt.yH at hh;simp only[gX,Bool.or_eq_true,H7]at hh;omega
theorem vK {qf:ByteArray}{L:List Rec}(h:zS qf L=none):
 zq (jP L) L.length=none/\zq (Qj qf L) L.length=none/\Qi L≠0/\qJ L (qy qf,2)≠[]/\zq (atB L Zh) L.length=none/\zq (atB L (YE (kZ L))) L.length=none/\
  zq (atB L (xA (qy qf) (qJ L) (zD L))) L.length=none/\zq (atB L (QS (qJ L))) L.length=none:=by
 unfold zS at h
 split at h
 ·cases h
 ·rename_i h1
  split at h
  ·cases h
  ·rename_i h2
   split at h
   ·cases h
   ·rename_i h3
    split at h
    ·cases h
    ·rename_i h4
     split at h
     ·cases h
     ·rename_i h5
      split at h
      ·cases h
      ·rename_i h6
       split at h
       ·cases h
       ·rename_i h7
        split at h
        ·cases h
        ·rename_i h8
         exact⟨h1,h2,h3,λe=>h4 (by rw[e];rfl),h5,h6,h7,h8⟩
theorem at_all {L:List Rec}{bad:Rec->Bool}(h:zq (atB L bad) L.length=none):∀r∈L,bad r=false:=λr hr=>by
 obtain⟨k,hk,rfl⟩:=List.getElem_of_mem hr;have:=YB h k hk
 rwa [uP hk]at this
end zn
namespace zn
theorem firstB_iff {bad:Nat->Bool}{n:Nat}:zq bad n=none↔∀j,j<n->bad j=false:=⟨YB,vX⟩
theorem vE {L:List Rec}{bad:Rec->Bool}:zq (atB L bad) L.length=none↔∀r∈L,bad r=false:=by
 refine⟨at_all,λh=>vX λj hj=>?_⟩;rw[uP hj];exact h _ (Ht hj)
theorem mem_take_at {L:List Rec}{i j:Nat}(hij:i<j)(hj:j<L.length):L[i]'(by omega)∈L.take j:=by
 rw[List.mem_take_iff_getElem];exact⟨i,by omega,rfl⟩
theorem twice_iff {L:List Rec}:zq (jP L) L.length=none↔L.Pairwise (λa b=>yJ a≠yJ b):=by
 refine⟨Qv,λh=>vX λj hj=>?_⟩;rw[List.pairwise_iff_getElem]at h;unfold jP;rw[List.getElem?_eq_getElem hj];simp only[decide_eq_false_iff_not,Nat.not_lt,Nat.le_zero_eq];unfold vg;rw[List.length_eq_zero_iff,List.filter_eq_nil_iff];intro r hr;rw[List.mem_take_iff_getElem]at hr;obtain⟨i,hi,rfl⟩:=hr;have:=h i j (by omega) hj (by omega)
 simpa using this
theorem soaC_fold (L:List Rec):∀c:Nat,L.foldl (λc r=>Vs r c) c=c+(L.filter λr=>decide (r.typ=6)).length:=by
 induction L with
 | nil=>intro c;rfl
 | cons r L ih=>
   intro c;rw[List.foldl_cons,ih,List.filter_cons];unfold Vs;by_cases h:r.typ=6
   ·simp[h];omega
   ·simp[h]
theorem Uv (L:List Rec):Qi L=(L.filter λr=>decide (r.typ=6)).length:=by
 unfold Qi;rw[soaC_fold];omega
theorem ZA {qf:ByteArray}{L:List Rec}:zq (Qj qf L) L.length=none↔L.Pairwise (λa b=>¬(a.typ=6/\b.typ=6))/\∀r∈L,r.typ=6->qG r.owner qf=true:=by
 rw[firstB_iff];constructor
 ·intro h;refine⟨?_,λr hr h6=>?_⟩
  ·rw[List.pairwise_iff_getElem];rintro i j hi hj hij ⟨e1,e2⟩;have:=h j hj;unfold Qj at this;rw[List.getElem?_eq_getElem hj]at this;unfold JK at this;simp only[e2,decide_true,Bool.true_and,Bool.or_eq_false_iff,decide_eq_false_iff_not,Nat.not_lt,Nat.le_zero_eq]at this;have h2:=this.1;rw[Uv,List.length_eq_zero_iff,List.filter_eq_nil_iff]at h2;have:=h2 _ (mem_take_at hij hj);simp[e1]at this
  ·obtain⟨j,hj,rfl⟩:=List.getElem_of_mem hr;have:=h j hj;unfold Qj at this;rw[List.getElem?_eq_getElem hj]at this;unfold JK at this;simp only[h6,decide_true,Bool.true_and,Bool.or_eq_false_iff,Bool.not_eq_false']at this;exact this.2
 ·rintro⟨h1,h2⟩ j hj;unfold Qj;rw[List.getElem?_eq_getElem hj];show JK qf (Qi (L.take j)) L[j]=false;unfold JK;by_cases h6:L[j].typ=6
  ·rw[h2 _ (Ht hj) h6];have:Qi (L.take j)=0:=by
    rw[Uv,List.length_eq_zero_iff,List.filter_eq_nil_iff];intro r hr;rw[List.mem_take_iff_getElem]at hr;obtain⟨i,hi,rfl⟩:=hr;rw[List.pairwise_iff_getElem]at h1;intro e;exact h1 i j (by omega) hj (by omega) ⟨by simpa using e,h6⟩
   rw[this];simp
  ·simp[h6]
theorem JZ {L:List Rec}:Qi L=0↔∀r∈L,r.typ≠6:=by
 rw[Uv,List.length_eq_zero_iff,List.filter_eq_nil_iff];simp
theorem rows_nil {L L':List Rec}(hp:L.Perm L')(κ:Key):(qJ L κ).length=(qJ L' κ).length:=(hp.filter _).length_eq
theorem all_perm {L L':List Rec}(hp:L.Perm L'):kZ L=kZ L':=by
 funext n
 unfold kZ;rw[(hp.filter _).length_eq]
theorem below_perm {L L':List Rec}(hp:L.Perm L'):zD L=zD L':=by
 funext n
 unfold zD;rw[((hp.flatMap_right _).filter _).length_eq]
theorem ttl_iff {L:List Rec}:(∀r∈L,QS (qJ L) r=false)↔∀r∈L,∀r'∈L,r.typ≠46->yh r=yh r'->r.ttl=r'.ttl:=by
 have hd:∀r∈L,∃h∈L,yh h=yh r/\((qJ L (yh r)).headD r)=h:=λr hr=>by
  have hm:r∈qJ L (yh r):=kD.2 ⟨hr,rfl⟩
  cases hc:qJ L (yh r) with
  | nil=>rw[hc]at hm;simp at hm
  | cons h l=>
    have:h∈qJ L (yh r):=by rw[hc];simp
    exact⟨h,(kD.1 this).1,(kD.1 this).2,rfl⟩
 constructor
 ·intro h r hr r' hr' ht hk;have ht':r'.typ≠46:=by
   have:r.typ=r'.typ:=congrArg Prod.snd hk
   rwa [<- this]
  have h1:=h r hr;have h2:=h r' hr';unfold QS at h1 h2;simp only[ht,ht',decide_false,Bool.not_false,Bool.true_and,Bool.not_eq_false',H7]at h1 h2;obtain⟨a,_,_,ea⟩:=hd r hr;obtain⟨b,_,_,eb⟩:=hd r' hr';rw[ea]at h1;rw[eb]at h2;have:a=b:=by
   rw[<- ea,<- eb,hk]
   cases hc:qJ L (yh r') with
   | nil=>
     have hm:r'∈qJ L (yh r'):=kD.2 ⟨hr',rfl⟩;rw[hc]at hm;simp at hm
   | cons=>rfl
  rw[h1,h2,this]
 ·intro h r hr;obtain⟨a,ha,hk,e⟩:=hd r hr;unfold QS;by_cases ht:r.typ=46
  ·simp[ht]
  ·rw[e,h r hr a ha ht hk.symm];simp
open Classical in
noncomputable def codeC (qf:ByteArray) (l:List Rec):Option Int:=
 if qo qf=false then some 1 else if 2000<l.length then some 20
 else if ¬(∀r∈l,jT r=false) then some 8 else if ¬(∀r∈l,(!zI r.owner qf)=false) then some 5
 else if ¬l.Pairwise (λa b=>yJ a≠yJ b) then some 19
 else if ¬(l.Pairwise (λa b=>¬(a.typ=6/\b.typ=6))/\∀r∈l,r.typ=6->qG r.owner qf=true) then some 15
 else if(∀r∈l,r.typ≠6) then some 15
 else if(qJ l (qy qf,2)).length=0 then some 16
 else if ¬(∀r∈l,Zh r=false) then some 22 else if ¬(∀r∈l,YE (kZ l) r=false) then some 17
 else if ¬(∀r∈l,xA (qy qf) (qJ l) (zD l) r=false) then some 18
 else if ¬(∀r∈l,∀r'∈l,r.typ≠46->yh r=yh r'->r.ttl=r'.ttl) then some 21 else none
theorem code_of (qf:ByteArray)(l:List Rec):(yG qf l).map Prod.snd=codeC qf l:=by
 unfold yG codeC;by_cases h1:qo qf=false
 ·rw[if_pos h1,if_pos h1];rfl
 rw[if_neg h1,if_neg h1];by_cases h2:2000<l.length
 ·rw[if_pos h2,if_pos h2];rfl
 rw[if_neg h2,if_neg h2];unfold kz
 cases h3:zq (atB l jT) l.length with
 | some k=>rw[if_pos (λh=>by rw[vE.2 h]at h3;cases h3)];rfl
 | none=>
   rw[if_neg (not_not_intro (vE.1 h3))]
   cases h4:zq (atB l λr=>!zI r.owner qf) l.length with
   | some k=>rw[if_pos (λh=>by rw[vE.2 h]at h4;cases h4)];rfl
   | none=>
     rw[if_neg (not_not_intro (vE.1 h4))];show(zS qf l).map Prod.snd=_;unfold zS
     cases h5:zq (jP l) l.length with
     | some k=>rw[if_pos (λh=>by rw[twice_iff.2 h]at h5;cases h5)];rfl
     | none=>
       rw[if_neg (not_not_intro (twice_iff.1 h5))]
       cases h6:zq (Qj qf l) l.length with
       | some k=>rw[if_pos (λh=>by rw[ZA.2 h]at h6;cases h6)];rfl
       | none=>
         rw[if_neg (not_not_intro (ZA.1 h6))];by_cases h7:Qi l=0
         ·rw[if_pos (JZ.1 h7)];simp only[if_pos h7];rfl
         ·rw[if_neg (λh=>h7 (JZ.2 h))];simp only[if_neg h7];by_cases h8:(qJ l (qy qf,2)).length=0
          ·rw[if_pos h8,if_pos h8];rfl
          ·rw[if_neg h8,if_neg h8]
           cases h9:zq (atB l Zh) l.length with
           | some k=>rw[if_pos (λh=>by rw[vE.2 h]at h9;cases h9)];rfl
           | none=>
             rw[if_neg (not_not_intro (vE.1 h9))]
             cases h10:zq (atB l (YE (kZ l))) l.length with
             | some k=>rw[if_pos (λh=>by rw[vE.2 h]at h10;cases h10)];rfl
             | none=>
               rw[if_neg (not_not_intro (vE.1 h10))]
               cases h11:zq (atB l (xA (qy qf) (qJ l) (zD l))) l.length with
               | some k=>rw[if_pos (λh=>by rw[vE.2 h]at h11;cases h11)];rfl
               | none=>
                 rw[if_neg (not_not_intro (vE.1 h11))]
                 cases h12:zq (atB l (QS (qJ l))) l.length with
                 | some k=>rw[if_pos (λh=>by rw[vE.2 (ttl_iff.2 h)]at h12;cases h12)];rfl
                 | none=>rw[if_neg (not_not_intro (ttl_iff.1 (vE.1 h12)))];rfl
theorem bad5_perm {L L':List Rec}(hp:L.Perm L')(low:ByteArray)(r:Rec):xA low (qJ L) (zD L) r=xA low (qJ L') (zD L') r:=by
 unfold xA;rw[rows_nil hp,below_perm hp]
theorem codeC_perm {qf:ByteArray}{l l':List Rec}(hp:l.Perm l'):codeC qf l=codeC qf l':=by
 have e:∀P:Rec->Prop,(∀r∈l,P r)↔(∀r∈l',P r):=λP=>⟨λh r hr=>h r (hp.mem_iff.2 hr),λh r hr=>h r (hp.mem_iff.1 hr)⟩;unfold codeC;have e1:l.Pairwise (λa b=>yJ a≠yJ b)↔l'.Pairwise (λa b=>yJ a≠yJ b):=hp.pairwise_iff (λh=>Ne.symm h);have e2:l.Pairwise (λa b:Rec=>¬(a.typ=6/\b.typ=6))↔l'.Pairwise (λa b=>¬(a.typ=6/\b.typ=6)):=hp.pairwise_iff (λh k=>h ⟨k.2,k.1⟩);have e3:(∀r∈l,∀r'∈l,r.typ≠46->yh r=yh r'->r.ttl=r'.ttl)↔(∀r∈l',∀r'∈l',r.typ≠46->yh r=yh r'->r.ttl=r'.ttl):=by
  rw[e];exact forall_congr' λr=>forall_congr' λ_=>e _
 simp only[e,e1,e2,hp.length_eq,rows_nil hp,all_perm hp,bad5_perm hp]
theorem newE_perm {qf:ByteArray}{l l':List Rec}(hp:l.Perm l'):(yG qf l).map Prod.snd=(yG qf l').map Prod.snd:=by rw[code_of,code_of,codeC_perm hp]
theorem newE_none {qf:ByteArray}{l:List Rec}:yG qf l=none↔(yG qf l).map Prod.snd=none:=by simp
theorem Z9 {qf:ByteArray}{l:List Rec}(h:yG qf l=none):Valid qf l:=by
 unfold yG at h
 split at h
 ·cases h
 ·rename_i h1
  split at h
  ·cases h
  ·rename_i h2
   split at h
   ·cases h
   ·rename_i h3
    refine⟨by simpa using h1,by omega,?_,h⟩;unfold kz at h3
    split at h3
    ·cases h3
    ·rename_i h4
     split at h3
     ·cases h3
     ·rename_i h5
      intro r hr;have a1:=at_all h4 r hr;refine⟨?_,a1,by simpa using at_all h5 r hr⟩;unfold jT at a1;simp only[Bool.not_eq_false',gX]at a1;exact a1.1.1.1.1
theorem newE_of {qf:ByteArray}{l l':List Rec}(hp:l.Perm l')(h:yG qf l=none):yG qf l'=none:=by
 rw[newE_none,<- newE_perm hp,<- newE_none];exact h
end zn
end Go.Proofs.YtpcmilhjpmlbpaaGreatDoor
namespace Go.Proofs.YtpcmilhjpmlbpaaGreatDoor
open Go.RowKit Go.Shelf nm
namespace nm
end nm
namespace nm
theorem labels_low {s:ByteArray}{ls:List (List UInt8)}(h:rows s=some ls):je (kY s)=lbs (jH ls):=by
 have h1:=yc (UA h);unfold je;rw[if_pos (Qy (UA h)),h1.2.2.2,od.Jt _ _ h1.2.1];rfl
theorem VP:∀x y:List UInt8,(Op.bytesLess x y=true->Lib.compareBytes x y= -1)/\((x == y)=true->Lib.compareBytes x y=0)/\(Op.bytesLess x y=false->(x == y)=false->Lib.compareBytes x y=1)
 | [],[]=>by simp[Op.bytesLess,Lib.compareBytes]
 | [],_ :: _=>by simp[Op.bytesLess,Lib.compareBytes]
 | _ :: _,[]=>by simp[Op.bytesLess,Lib.compareBytes]
 | a :: x,b :: y=>by
   obtain⟨h1,h2,h3⟩:=VP x y;unfold Lib.compareBytes;by_cases hab:a=b
   ·subst hab;have hlt:¬a<a:=UInt8.lt_irrefl a;simp only[Op.bytesLess,hlt,if_false,decide_false,Bool.false_or,beq_self_eq_true,Bool.true_and,List.cons_beq_cons];exact⟨h1,h2,h3⟩
   ·have hb:(a == b)=false:=by simpa using hab
    by_cases hlt:a<b
    ·simp[Op.bytesLess,hlt,hb]
    ·have h':b<a:=UInt8.lt_of_le_of_ne (UInt8.not_lt.1 hlt) (Ne.symm hab);simp[Op.bytesLess,hlt,hb,h']
def Y4 (X Y:List (List UInt8))(i j:Nat):Int:=yA (lbs ((jH X).take i)).reverse (lbs ((jH Y).take j)).reverse
theorem cmpTo_zz (X Y:List (List UInt8)):Y4 X Y 0 0=0:=by simp[Y4,lbs,yA]
theorem cmpTo_zs (X Y:List (List UInt8)){j:Nat}(h:j<Y.length):Y4 X Y 0 (j+1)= -1:=by
 unfold Y4;rw[xw Y h,List.reverse_append];simp[lbs,yA]
theorem cmpTo_sz (X Y:List (List UInt8)){i:Nat}(h:i<X.length):Y4 X Y (i+1) 0=1:=by
 unfold Y4;rw[xw X h,List.reverse_append];simp[lbs,yA]
theorem cmpTo_ss (X Y:List (List UInt8)){i j:Nat}(h:i<X.length)(h':j<Y.length):Y4 X Y (i+1) (j+1)=if Lib.compareBytes (kY ⟨X[i].toArray⟩).data.toList (kY ⟨Y[j].toArray⟩).data.toList=0 then Y4 X Y i j else Lib.compareBytes (kY ⟨X[i].toArray⟩).data.toList (kY ⟨Y[j].toArray⟩).data.toList:=by
 unfold Y4;rw[xw X h,xw Y h',List.reverse_append,List.reverse_append];rfl
theorem compare_of {a b:ByteArray}{X Y:List (List UInt8)}(ha:rows a=some X)(hb:rows b=some Y):zo a b=Y4 X Y X.length Y.length:=by
 unfold zo Y4;have e:∀Z:List (List UInt8),(jH Z).take Z.length=jH Z:=λZ=>List.take_of_length_le (by unfold jH;simp);rw[if_pos ⟨Qy ha,Qy hb⟩,labels_low ha,labels_low hb,e,e]
end nm
def Xx:Value->Nat
 | .slice _ n _=>n
 | _=>0
theorem rcompare_any (a b:ByteArray)(ha:a.size<=1099511627776)(hb:b.size<=1099511627776)(w:World):Calls Tryz.prog 176 #[.string a,.string b] w λe w'=>e= .returned (.int .i64 (zo a b))/\Below w.heap.size w w':=by
 cases hra:rows a with
 | none=>
   have hf:zo a b=0:=by unfold zo;rw[if_neg];intro h;rw[jA,hra]at h;exact absurd h.1 (by simp)
   have HF:=qe hf;have HR:=qe hra;clear hf hra
   go_enter Tryz.func176,Tryz.ntmps176
   go_wp2_with fail;refine(yE a ha _).mono ?_;rintro e w2 ⟨hB,v,rfl,_⟩;have HB:=qe hB;clear hB;rw[HR.out];go_wp2_with fail;refine(yE b hb _).mono ?_;rintro e w3 ⟨hB3,v3,rfl,_⟩;have HB3:=qe (gm HB.out hB3);clear hB3;go_wp2_with fail;go_ret;exact⟨qQ HF.out.symm,HB3.out⟩
 | some X=>
   cases hrb:rows b with
   | none=>
     have hf:zo a b=0:=by unfold zo;rw[if_neg];intro h;rw[jA b,hrb]at h;exact absurd h.2 (by simp)
     have HF:=qe hf;have HR:=qe hra;have HR2:=qe hrb;clear hf hra hrb
     go_enter Tryz.func176,Tryz.ntmps176
     go_wp2_with fail;refine(yE a ha _).mono ?_;rintro e w2 ⟨hB,v,rfl,_⟩;have HB:=qe hB;clear hB;rw[HR.out];go_wp2_with fail;refine(yE b hb _).mono ?_;rintro e w3 ⟨hB3,v3,rfl,_⟩;have HB3:=qe (gm HB.out hB3);clear hB3;rw[HR2.out];go_wp2_with fail;go_ret;exact⟨qQ HF.out.symm,HB3.out⟩
   | some Y=>
     obtain⟨x1,x2,x3⟩:=QX hra;obtain⟨y1,y2,y3⟩:=QX hrb;have hf:=compare_of hra hrb;have HF:=qe hf;have HR:=qe hra;have HR2:=qe hrb;have HX3:=qe x3;have HY3:=qe y3;clear hf hra hrb x2 y2 x3 y3
     go_enter Tryz.func176,Tryz.ntmps176
     go_wp2_with fail;refine(yE a ha _).mono ?_;rintro e w2 ⟨hB,v,rfl,hv⟩;obtain⟨ax,cx,rfl,hcx⟩:=qj (hv X HR.out);have hrowx:=QZ (w:=w2) (ss:=lbs X) (by rw[ji];exact hv X HR.out);have HB:=qe hB;clear hB hv;rw[HR.out];go_wp2_with fail;refine(yE b hb _).mono ?_;rintro e w3 ⟨hB3,v3,rfl,hv3⟩;obtain⟨ay,cy,rfl,hcy⟩:=qj (hv3 Y HR2.out);have hrowy:=QZ (w:=w3) (ss:=lbs Y) (by rw[ji];exact hv3 Y HR2.out);have hrowx:=hrowx.below hB3;have HB3:=qe (gm HB.out hB3);have HROWX:=qe hrowx;have HROWY:=qe hrowy;clear hB3 hv3 hrowx hrowy;have hs3:=HB3.out.size;rw[HR2.out];go_wp2_with fail
     go_loopw [5,7,9,10] (λxv yv _ _ wr=>∃i j:Nat,i<=X.length/\j<=Y.length/\xv= .slice ax i cx/\yv= .slice ay j cy/\zo a b=Y4 X Y i j/\Below w3.heap.size w3 wr) (λxv _ _ _ _=>Xx xv)
     case atStart=>exact⟨X.length,Y.length,gI _,gI _,rfl,rfl,HF.out,gJ _ _⟩
     case round=>
      obtain⟨i,j,hi,hj,rfl,rfl,hcmp,hB⟩:=hrel;have HCMP:=qe hcmp;have HBr:=qe hB;clear hcmp hB;rcases i with _ | i
      ·rcases j with _ | j
       ·have HN:=qe (HCMP.out.trans (cmpTo_zz X Y));have HE:=qe (HB3.out.trans (HBr.out.mono hs3));go_wp2_with fail;go_ret;exact⟨qQ HN.out.symm,HE.out⟩
       ·have HN:=qe (HCMP.out.trans (cmpTo_zs X Y (j:=j) (by omega)));have HE:=qe (HB3.out.trans (HBr.out.mono hs3));go_wp2_with fail;go_ret;exact⟨qQ HN.out.symm,HE.out⟩
      ·rcases j with _ | j
       ·have HN:=qe (HCMP.out.trans (cmpTo_sz X Y (i:=i) (by omega)));have HE:=qe (HB3.out.trans (HBr.out.mono hs3));go_wp2_with fail;go_ret;exact⟨qQ HN.out.symm,HE.out⟩
       ·obtain⟨ax',cx',hvx,hcellx⟩:=HROWX.out;obtain⟨ay',cy',hvy,hcelly⟩:=HROWY.out;simp only[gL]at hvx hvy;obtain⟨rfl,hvx1,rfl⟩:=hvx;obtain⟨rfl,hvy1,rfl⟩:=hvy;clear hvx1 hvy1;obtain⟨bx,ox,rfl,hlx,cellx⟩:=hcellx i (by rw[ji];omega);obtain⟨by',oy,rfl,hly,celly⟩:=hcelly j (by rw[ji];omega);rw[lbs_get (by omega)]at cellx celly;have hcmp:=HCMP.out.trans (cmpTo_ss X Y (i:=i) (j:=j) (by omega) (by omega));have hxs:(⟨X[i].toArray⟩:ByteArray).size<=63:=(HX3.out _ (Ht (by omega))).2;have hys:(⟨Y[j].toArray⟩:ByteArray).size<=63:=(HY3.out _ (Ht (by omega))).2
        generalize (⟨X[i].toArray⟩:ByteArray)=p at cellx hcmp hxs
        generalize (⟨Y[j].toArray⟩:ByteArray)=q at celly hcmp hys
        have e1:=qh ((HBr.out.cell (p:=⟨bx,ox+i,none⟩) hlx).trans cellx);have e2:=qh ((HBr.out.cell (p:=⟨by',oy+j,none⟩) hly).trans celly);have HN:=qe hcmp;have wi:IntKind.i64.wrap (i:Int)=(i:Int):=Hg _ (by omega);have wj:IntKind.i64.wrap (j:Int)=(j:Int):=Hg _ (by omega);have lti:(i:Int)<(i:Int)+1:=by omega
        have ltj:(j:Int)<(j:Int)+1:=by omega
        have lci:(i:Int)<=(cx:Int):=by omega
        have lcj:(j:Int)<=(cy:Int):=by omega
        have nci:¬cx=0:=by omega
        have ncj:¬cy=0:=by omega
        have CP:Hid (∀g,Calls Tryz.prog 146 #[.string p] (gw wr g) λe w''=>e= .returned (.string (kY p))/\∃g',w''=gw wr g'):=qe λg=>qY (rlow_any p (by omega) _);have CQ:Hid (∀g,Calls Tryz.prog 146 #[.string q] (gw wr g) λe w''=>e= .returned (.string (kY q))/\∃g',w''=gw wr g'):=qe λg=>qY (rlow_any q (by omega) _);clear hcmp hcellx hcelly cellx celly;go_wp2_with fail;refine qp (by kernel_rfl) (by kernel_rfl) ?_
        repeat (refine Hu (λK hK=>?_);go_simp;(try simp only[wi,wj]);first | (refine hK _ ?_;clear hK K) | (apply gW;refine⟨λ_=>?_,hK _ ?_⟩;(first | (go_at_call 146;first | with_reducible exact CP.out _ | with_reducible exact CQ.out _));clear hK K))
        refine Hw ?_;intro W hW;have hBW:Below wr.heap.size wr W:=by obtain⟨g,rfl⟩:=hW;exact qD wr g
        have HBW:=qe (gm HBr.out hBW);clear hW hBW e1 e2 CP CQ
        generalize kY p=p' at HN
        generalize kY q=q' at HN
        obtain⟨c1,c2,c3⟩:=VP p'.toList q'.toList;rw[<- Lib.toList_data,<- Lib.toList_data]at HN;have HE:=qe (HB3.out.trans (HBW.out.mono hs3))
        cases hl:Op.bytesLess p'.toList q'.toList
        ·cases he:p'.toList == q'.toList
         ·have hn:=HN.out;rw[c3 hl he,if_neg (by decide)]at hn;have HN':=qe hn;have he':(!(p'.toList == q'.toList))=true:=by rw[he];rfl
          clear HN c1 c2 c3 hn;go_wp2_with fail;go_ret;exact⟨qQ HN'.out.symm,HE.out⟩
         ·have hn:=HN.out;rw[c2 he,if_pos rfl]at hn;have HN':=qe hn;have he':(!(p'.toList == q'.toList))=false:=by rw[he];rfl
          clear HN c1 c2 c3 hn;go_wp2_with fail;refine qp (by kernel_rfl) (by kernel_rfl) ?_
          repeat (refine Hu (λK hK=>?_);go_simp;(try simp only[wi,wj]);first | (refine hK _ ?_;clear hK K))
          refine Hw ?_;intro W2 hW2;have Qs:Below W.heap.size W W2:=by obtain⟨g,rfl⟩:=hW2;exact qD W g
          have Zu:=qe (gm HBW.out Qs);clear hW2 Qs;go_wp2_with fail
          go_roundw
          case rel=>
           exact⟨i,j,by omega,by omega,rfl,rfl,HN'.out,Zu.out⟩
          case measure=>simp[Xx]
        ·have hn:=HN.out;rw[c1 hl,if_neg (by decide)]at hn;have HN':=qe hn;clear HN c1 c2 c3 hn;go_wp2_with fail;go_ret;exact⟨qQ HN'.out.symm,HE.out⟩
end Go.Proofs.YtpcmilhjpmlbpaaGreatDoor
