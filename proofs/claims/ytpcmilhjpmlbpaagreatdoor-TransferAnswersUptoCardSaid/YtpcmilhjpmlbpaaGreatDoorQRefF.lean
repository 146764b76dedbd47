import Derived.Test.YtpcmilhjpmlbpaaGreatDoorQZoneP
import Derived.Test.YtpcmilhjpmlbpaaGreatDoorQRefC
import Derived.Laws.OwnMore
import Derived.Lib.Bytealg
set_option maxRecDepth 100000
set_option maxHeartbeats 2000000
namespace Go.Proofs.YtpcmilhjpmlbpaaGreatDoor
open Go.RowKit Go.Shelf Go.WideMaps nm od
namespace zn
def owned (q:ByteArray)(l:List Rec):List Rec:=l.map fun r=>{ r with owner:=q}
theorem fold_eq {a b:ByteArray}{x y:List (List UInt8)}(ha:rows a=some x)(hb:rows b=some y):qx a=qx b↔jG x=jG y:=by
 constructor
 ·intro h;have h1:=vH ha;rw[h,vH hb]at h1;exact(Option.some.inj h1).symm
 ·intro h;rw[vQ ha,vQ hb,h]
theorem zM {a b:ByteArray}(ha:qo a=true)(hb:qo b=true):qF a b=true↔qx a=qx b:=by
 obtain⟨x,hx⟩:=yN ha;obtain⟨y,hy⟩:=yN hb;rw[KP hx hy,decide_eq_true_eq,fold_eq hx hy]
theorem Q6 (x:List (List UInt8)):(jG x).length=x.length:=by unfold jG;simp
theorem ups_within {r n:ByteArray}{x y:List (List UInt8)}(hr:rows r=some x)(hn:rows n=some y){c:Nat}(hc:c≤y.length)(hcx:c≤x.length):qx n∈ups c (qx r)↔zB r n=true:=by
 have h1:=vH hr;have hl:(jG x).length=x.length:=Q6 x;rw[Zm hr hn,vQ hn];unfold ups;rw[Qo h1,hl,Int.toNat_natCast,List.mem_map];constructor
 ·rintro⟨i,hi,e⟩;rw[List.mem_range]at hi;have h2:=(uo h1 (k:=(x.length:Int)-i) (by omega) (by omega)).2;rw[e,← vQ hn,vH hn,hl]at h2;have h3:=Option.some.inj h2;have h4:=congrArg List.length h3;rw[List.length_drop,Q6,hl]at h4;refine⟨by omega,?_⟩;rw[h3]
  congr 1
  omega
 ·rintro⟨h2,h3⟩;refine⟨x.length-y.length,List.mem_range.2 (by omega),?_⟩;rw[(uo h1 (by omega) (by omega)).1,hl,← h3]
  congr 2
  omega
theorem fold_none {n:ByteArray}(h:qo n=false):qx n=ByteArray.empty:=by unfold qx;rw[if_neg (by rw[h];simp)]
theorem empty_check:qo ByteArray.empty=false:=by decide
structure Valid (qg:ByteArray)(L:List Rec):Prop where
 ap:qo qg=true
 small:L.length≤2000
 each:∀r∈L,qo r.owner=true∧jV r=false∧zB r.owner qg=true
 rules:zU qg L=none
theorem Valid.named {qg:ByteArray}{L:List Rec}(h:Valid qg L):jN L:=fun r hr=>(h.each r hr).1
end zn
namespace zn
theorem ko {L:List Rec}{κ:Key}{r:Rec}:r∈qI L κ↔r∈L∧yg r=κ:=by
 unfold qI;rw[List.mem_filter,decide_eq_true_eq]
theorem type_of {r:Rec}(h:jV r=false):1≤r.typ∧r.typ≤65535∧r.typ≠255:=by
 unfold jV at h;simp only[Bool.not_eq_false',Bool.and_eq_true,decide_eq_true_eq]at h;have h1:=h.2;unfold dt.jd at h1
 cases hh:dt.yH r.typ
 ·rw[hh]at h1;simp at h1
 ·unfold dt.yH at hh;simp only[Bool.and_eq_true,Bool.or_eq_true,decide_eq_true_eq]at hh;omega
theorem vG {qg:ByteArray}{L:List Rec}(h:zU qg L=none):
 zm (jQ L) L.length=none∧zm (Qf qg L) L.length=none∧Qe L≠0∧qI L (qx qg,2)≠[]∧zm (atB L Zd) L.length=none∧zm (atB L (Yt (kX L))) L.length=none∧
  zm (atB L (xu (qx qg) (qI L) (zx L))) L.length=none∧zm (atB L (QK (qI L))) L.length=none:=by
 unfold zU at h
 split at h
 ·cases h
 ·rename_i h1
  split at h
  ·cases h
  ·rename_i h2
   split at h
   ·cases h
   ·rename_i h3
    split at h
    ·cases h
    ·rename_i h4
     split at h
     ·cases h
     ·rename_i h5
      split at h
      ·cases h
      ·rename_i h6
       split at h
       ·cases h
       ·rename_i h7
        split at h
        ·cases h
        ·rename_i h8
         exact⟨h1,h2,h3,fun e=>h4 (by rw[e];rfl),h5,h6,h7,h8⟩
theorem at_all {L:List Rec}{bad:Rec→Bool}(h:zm (atB L bad) L.length=none):∀r∈L,bad r=false:=fun r hr=>by
 obtain⟨k,hk,rfl⟩:=List.getElem_of_mem hr;have:=Yp h k hk
 rwa [uM hk]at this
end zn
namespace zn
theorem firstB_iff {bad:Nat→Bool}{n:Nat}:zm bad n=none↔∀j,j<n→bad j=false:=⟨Yp,vR⟩
theorem vw {L:List Rec}{bad:Rec→Bool}:zm (atB L bad) L.length=none↔∀r∈L,bad r=false:=by
 refine⟨at_all,fun h=>vR fun j hj=>?_⟩;rw[uM hj];exact h _ (List.getElem_mem hj)
theorem mem_take_at {L:List Rec}{i j:Nat}(hij:i<j)(hj:j<L.length):L[i]'(by omega)∈L.take j:=by
 rw[List.mem_take_iff_getElem];exact⟨i,by omega,rfl⟩
theorem twice_iff {L:List Rec}:zm (jQ L) L.length=none↔L.Pairwise (fun a b=>yL a≠yL b):=by
 refine⟨Qm,fun h=>vR fun j hj=>?_⟩;rw[List.pairwise_iff_getElem]at h;unfold jQ;rw[List.getElem?_eq_getElem hj];simp only[decide_eq_false_iff_not,Nat.not_lt,Nat.le_zero_eq];unfold uY;rw[List.length_eq_zero_iff,List.filter_eq_nil_iff];intro r hr;rw[List.mem_take_iff_getElem]at hr;obtain⟨i,hi,rfl⟩:=hr;have:=h i j (by omega) hj (by omega)
 simpa using this
theorem soaC_fold (L:List Rec):∀c:Nat,L.foldl (fun c r=>U2 r c) c=c+(L.filter fun r=>decide (r.typ=6)).length:=by
 induction L with
 | nil=>intro c;rfl
 | cons r L ih=>
   intro c;rw[List.foldl_cons,ih,List.filter_cons];unfold U2;by_cases h:r.typ=6
   ·simp[h];omega
   ·simp[h]
theorem Ud (L:List Rec):Qe L=(L.filter fun r=>decide (r.typ=6)).length:=by
 unfold Qe;rw[soaC_fold];omega
theorem Zv {qg:ByteArray}{L:List Rec}:zm (Qf qg L) L.length=none↔L.Pairwise (fun a b=>¬(a.typ=6∧b.typ=6))∧∀r∈L,r.typ=6→qF r.owner qg=true:=by
 rw[firstB_iff];constructor
 ·intro h;refine⟨?_,fun r hr h6=>?_⟩
  ·rw[List.pairwise_iff_getElem];rintro i j hi hj hij ⟨e1,e2⟩;have:=h j hj;unfold Qf at this;rw[List.getElem?_eq_getElem hj]at this;unfold Jv at this;simp only[e2,decide_true,Bool.true_and,Bool.or_eq_false_iff,decide_eq_false_iff_not,Nat.not_lt,Nat.le_zero_eq]at this;have h2:=this.1;rw[Ud,List.length_eq_zero_iff,List.filter_eq_nil_iff]at h2;have:=h2 _ (mem_take_at hij hj);simp[e1]at this
  ·obtain⟨j,hj,rfl⟩:=List.getElem_of_mem hr;have:=h j hj;unfold Qf at this;rw[List.getElem?_eq_getElem hj]at this;unfold Jv at this;simp only[h6,decide_true,Bool.true_and,Bool.or_eq_false_iff,Bool.not_eq_false']at this;exact this.2
 ·rintro⟨h1,h2⟩ j hj;unfold Qf;rw[List.getElem?_eq_getElem hj];show Jv qg (Qe (L.take j)) L[j]=false;unfold Jv;by_cases h6:L[j].typ=6
  ·rw[h2 _ (List.getElem_mem hj) h6];have:Qe (L.take j)=0:=by
    rw[Ud,List.length_eq_zero_iff,List.filter_eq_nil_iff];intro r hr;rw[List.mem_take_iff_getElem]at hr;obtain⟨i,hi,rfl⟩:=hr;rw[List.pairwise_iff_getElem]at h1;intro e;exact h1 i j (by omega) hj (by omega) ⟨by simpa using e,h6⟩
   rw[this];simp
  ·simp[h6]
theorem JJ {L:List Rec}:Qe L=0↔∀r∈L,r.typ≠6:=by
 rw[Ud,List.length_eq_zero_iff,List.filter_eq_nil_iff];simp
theorem rows_nil {L L':List Rec}(hp:L.Perm L')(κ:Key):(qI L κ).length=(qI L' κ).length:=(hp.filter _).length_eq
theorem all_perm {L L':List Rec}(hp:L.Perm L'):kX L=kX L':=by
 funext n
 unfold kX;rw[(hp.filter _).length_eq]
theorem below_perm {L L':List Rec}(hp:L.Perm L'):zx L=zx L':=by
 funext n
 unfold zx;rw[((hp.flatMap_right _).filter _).length_eq]
theorem ttl_iff {L:List Rec}:(∀r∈L,QK (qI L) r=false)↔∀r∈L,∀r'∈L,r.typ≠46→yg r=yg r'→r.ttl=r'.ttl:=by
 have hd:∀r∈L,∃h∈L,yg h=yg r∧((qI L (yg r)).headD r)=h:=fun r hr=>by
  have hm:r∈qI L (yg r):=ko.2 ⟨hr,rfl⟩
  cases hc:qI L (yg r) with
  | nil=>rw[hc]at hm;simp at hm
  | cons h l=>
    have:h∈qI L (yg r):=by rw[hc];simp
    exact⟨h,(ko.1 this).1,(ko.1 this).2,rfl⟩
 constructor
 ·intro h r hr r' hr' ht hk;have ht':r'.typ≠46:=by
   have:r.typ=r'.typ:=congrArg Prod.snd hk
   rwa [← this]
  have h1:=h r hr;have h2:=h r' hr';unfold QK at h1 h2;simp only[ht,ht',decide_false,Bool.not_false,Bool.true_and,Bool.not_eq_false',decide_eq_true_eq]at h1 h2;obtain⟨a,_,_,ea⟩:=hd r hr;obtain⟨b,_,_,eb⟩:=hd r' hr';rw[ea]at h1;rw[eb]at h2;have:a=b:=by
   rw[← ea,← eb,hk]
   cases hc:qI L (yg r') with
   | nil=>
     have hm:r'∈qI L (yg r'):=ko.2 ⟨hr',rfl⟩;rw[hc]at hm;simp at hm
   | cons=>rfl
  rw[h1,h2,this]
 ·intro h r hr;obtain⟨a,ha,hk,e⟩:=hd r hr;unfold QK;by_cases ht:r.typ=46
  ·simp[ht]
  ·rw[e,h r hr a ha ht hk.symm];simp
open Classical in
noncomputable def codeC (qg:ByteArray) (l:List Rec):Option Int:=
 if qo qg=false then some 1 else if 2000<l.length then some 20
 else if ¬(∀r∈l,jV r=false) then some 8 else if ¬(∀r∈l,(!zB r.owner qg)=false) then some 5
 else if ¬l.Pairwise (fun a b=>yL a≠yL b) then some 19
 else if ¬(l.Pairwise (fun a b=>¬(a.typ=6∧b.typ=6))∧∀r∈l,r.typ=6→qF r.owner qg=true) then some 15
 else if(∀r∈l,r.typ≠6) then some 15
 else if(qI l (qx qg,2)).length=0 then some 16
 else if ¬(∀r∈l,Zd r=false) then some 22 else if ¬(∀r∈l,Yt (kX l) r=false) then some 17
 else if ¬(∀r∈l,xu (qx qg) (qI l) (zx l) r=false) then some 18
 else if ¬(∀r∈l,∀r'∈l,r.typ≠46→yg r=yg r'→r.ttl=r'.ttl) then some 21 else none
theorem code_of (qg:ByteArray)(l:List Rec):(yO qg l).map Prod.snd=codeC qg l:=by
 unfold yO codeC;by_cases h1:qo qg=false
 ·rw[if_pos h1,if_pos h1];rfl
 rw[if_neg h1,if_neg h1];by_cases h2:2000<l.length
 ·rw[if_pos h2,if_pos h2];rfl
 rw[if_neg h2,if_neg h2];unfold kg
 cases h3:zm (atB l jV) l.length with
 | some k=>rw[if_pos (fun h=>by rw[vw.2 h]at h3;cases h3)];rfl
 | none=>
   rw[if_neg (not_not_intro (vw.1 h3))]
   cases h4:zm (atB l fun r=>!zB r.owner qg) l.length with
   | some k=>rw[if_pos (fun h=>by rw[vw.2 h]at h4;cases h4)];rfl
   | none=>
     rw[if_neg (not_not_intro (vw.1 h4))];show(zU qg l).map Prod.snd=_;unfold zU
     cases h5:zm (jQ l) l.length with
     | some k=>rw[if_pos (fun h=>by rw[twice_iff.2 h]at h5;cases h5)];rfl
     | none=>
       rw[if_neg (not_not_intro (twice_iff.1 h5))]
       cases h6:zm (Qf qg l) l.length with
       | some k=>rw[if_pos (fun h=>by rw[Zv.2 h]at h6;cases h6)];rfl
       | none=>
         rw[if_neg (not_not_intro (Zv.1 h6))];by_cases h7:Qe l=0
         ·rw[if_pos (JJ.1 h7)];simp only[if_pos h7];rfl
         ·rw[if_neg (fun h=>h7 (JJ.2 h))];simp only[if_neg h7];by_cases h8:(qI l (qx qg,2)).length=0
          ·rw[if_pos h8,if_pos h8];rfl
          ·rw[if_neg h8,if_neg h8]
           cases h9:zm (atB l Zd) l.length with
           | some k=>rw[if_pos (fun h=>by rw[vw.2 h]at h9;cases h9)];rfl
           | none=>
             rw[if_neg (not_not_intro (vw.1 h9))]
             cases h10:zm (atB l (Yt (kX l))) l.length with
             | some k=>rw[if_pos (fun h=>by rw[vw.2 h]at h10;cases h10)];rfl
             | none=>
               rw[if_neg (not_not_intro (vw.1 h10))]
               cases h11:zm (atB l (xu (qx qg) (qI l) (zx l))) l.length with
               | some k=>rw[if_pos (fun h=>by rw[vw.2 h]at h11;cases h11)];rfl
               | none=>
                 rw[if_neg (not_not_intro (vw.1 h11))]
                 cases h12:zm (atB l (QK (qI l))) l.length with
                 | some k=>rw[if_pos (fun h=>by rw[vw.2 (ttl_iff.2 h)]at h12;cases h12)];rfl
                 | none=>rw[if_neg (not_not_intro (ttl_iff.1 (vw.1 h12)))];rfl
theorem bad5_perm {L L':List Rec}(hp:L.Perm L')(low:ByteArray)(r:Rec):xu low (qI L) (zx L) r=xu low (qI L') (zx L') r:=by
 unfold xu;rw[rows_nil hp,below_perm hp]
theorem codeC_perm {qg:ByteArray}{l l':List Rec}(hp:l.Perm l'):codeC qg l=codeC qg l':=by
 have e:∀P:Rec→Prop,(∀r∈l,P r)↔(∀r∈l',P r):=fun P=>⟨fun h r hr=>h r (hp.mem_iff.2 hr),fun h r hr=>h r (hp.mem_iff.1 hr)⟩;unfold codeC;have e1:l.Pairwise (fun a b=>yL a≠yL b)↔l'.Pairwise (fun a b=>yL a≠yL b):=hp.pairwise_iff (fun h=>Ne.symm h);have e2:l.Pairwise (fun a b:Rec=>¬(a.typ=6∧b.typ=6))↔l'.Pairwise (fun a b=>¬(a.typ=6∧b.typ=6)):=hp.pairwise_iff (fun h k=>h ⟨k.2,k.1⟩);have e3:(∀r∈l,∀r'∈l,r.typ≠46→yg r=yg r'→r.ttl=r'.ttl)↔(∀r∈l',∀r'∈l',r.typ≠46→yg r=yg r'→r.ttl=r'.ttl):=by
  rw[e];exact forall_congr' fun r=>forall_congr' fun _=>e _
 simp only[e,e1,e2,hp.length_eq,rows_nil hp,all_perm hp,bad5_perm hp]
theorem newE_perm {qg:ByteArray}{l l':List Rec}(hp:l.Perm l'):(yO qg l).map Prod.snd=(yO qg l').map Prod.snd:=by rw[code_of,code_of,codeC_perm hp]
theorem newE_none {qg:ByteArray}{l:List Rec}:yO qg l=none↔(yO qg l).map Prod.snd=none:=by simp
theorem Y3 {qg:ByteArray}{l:List Rec}(h:yO qg l=none):Valid qg l:=by
 unfold yO at h
 split at h
 ·cases h
 ·rename_i h1
  split at h
  ·cases h
  ·rename_i h2
   split at h
   ·cases h
   ·rename_i h3
    refine⟨by simpa using h1,by omega,?_,h⟩;unfold kg at h3
    split at h3
    ·cases h3
    ·rename_i h4
     split at h3
     ·cases h3
     ·rename_i h5
      intro r hr;have a1:=at_all h4 r hr;refine⟨?_,a1,by simpa using at_all h5 r hr⟩;unfold jV at a1;simp only[Bool.not_eq_false',Bool.and_eq_true]at a1;exact a1.1.1.1.1
theorem newE_of {qg:ByteArray}{l l':List Rec}(hp:l.Perm l')(h:yO qg l=none):yO qg l'=none:=by
 rw[newE_none,← newE_perm hp,← newE_none];exact h
end zn
end Go.Proofs.YtpcmilhjpmlbpaaGreatDoor
namespace Go.Proofs.YtpcmilhjpmlbpaaGreatDoor
open Go.RowKit Go.Shelf nm
namespace nm
end nm
namespace nm
theorem labels_low {s:ByteArray}{ls:List (List UInt8)}(h:rows s=some ls):ja (kW s)=lbs (jG ls):=by
 have h1:=yf (Uh h);unfold ja;rw[if_pos (Qq (Uh h)),h1.2.2.2,od.Jf _ _ h1.2.1];rfl
theorem Vz:∀x y:List UInt8,(Op.bytesLess x y=true→Lib.compareBytes x y= -1)∧((x == y)=true→Lib.compareBytes x y=0)∧(Op.bytesLess x y=false→(x == y)=false→Lib.compareBytes x y=1)
 | [],[]=>by simp[Op.bytesLess,Lib.compareBytes]
 | [],_ :: _=>by simp[Op.bytesLess,Lib.compareBytes]
 | _ :: _,[]=>by simp[Op.bytesLess,Lib.compareBytes]
 | a :: x,b :: y=>by
   obtain⟨h1,h2,h3⟩:=Vz x y;unfold Lib.compareBytes;by_cases hab:a=b
   ·subst hab;have hlt:¬a<a:=UInt8.lt_irrefl a;simp only[Op.bytesLess,hlt,if_false,decide_false,Bool.false_or,beq_self_eq_true,Bool.true_and,List.cons_beq_cons];exact⟨h1,h2,h3⟩
   ·have hb:(a == b)=false:=by simpa using hab
    by_cases hlt:a<b
    ·simp[Op.bytesLess,hlt,hb]
    ·have h':b<a:=UInt8.lt_of_le_of_ne (UInt8.not_lt.1 hlt) (Ne.symm hab);simp[Op.bytesLess,hlt,hb,h']
def YQ (X Y:List (List UInt8))(i j:Nat):Int:=yB (lbs ((jG X).take i)).reverse (lbs ((jG Y).take j)).reverse
theorem cmpTo_zz (X Y:List (List UInt8)):YQ X Y 0 0=0:=by simp[YQ,lbs,yB]
theorem cmpTo_zs (X Y:List (List UInt8)){j:Nat}(h:j<Y.length):YQ X Y 0 (j+1)= -1:=by
 unfold YQ;rw[xe Y h,List.reverse_append];simp[lbs,yB]
theorem cmpTo_sz (X Y:List (List UInt8)){i:Nat}(h:i<X.length):YQ X Y (i+1) 0=1:=by
 unfold YQ;rw[xe X h,List.reverse_append];simp[lbs,yB]
theorem cmpTo_ss (X Y:List (List UInt8)){i j:Nat}(h:i<X.length)(h':j<Y.length):YQ X Y (i+1) (j+1)=if Lib.compareBytes (kW ⟨X[i].toArray⟩).data.toList (kW ⟨Y[j].toArray⟩).data.toList=0 then YQ X Y i j else Lib.compareBytes (kW ⟨X[i].toArray⟩).data.toList (kW ⟨Y[j].toArray⟩).data.toList:=by
 unfold YQ;rw[xe X h,xe Y h',List.reverse_append,List.reverse_append];rfl
theorem compare_of {a b:ByteArray}{X Y:List (List UInt8)}(ha:rows a=some X)(hb:rows b=some Y):zk a b=YQ X Y X.length Y.length:=by
 unfold zk YQ;have e:∀Z:List (List UInt8),(jG Z).take Z.length=jG Z:=fun Z=>List.take_of_length_le (by unfold jG;simp);rw[if_pos ⟨Qq ha,Qq hb⟩,labels_low ha,labels_low hb,e,e]
end nm
def Xk:Value→Nat
 | .slice _ n _=>n
 | _=>0
theorem rcompare_any (a b:ByteArray)(ha:a.size≤1099511627776)(hb:b.size≤1099511627776)(w:World):Calls Tryz.prog 176 #[.string a,.string b] w fun e w'=>e= .returned (.int .i64 (zk a b))∧Below w.heap.size w w':=by
 cases hra:rows a with
 | none=>
   have hf:zk a b=0:=by unfold zk;rw[if_neg];intro h;rw[jr,hra]at h;exact absurd h.1 (by simp)
   have HF:=qe hf;have HR:=qe hra;clear hf hra
   go_enter Tryz.func176,Tryz.ntmps176
   go_wp2_with fail;refine(yE a ha _).mono ?_;rintro e w2 ⟨hB,v,rfl,_⟩;have HB:=qe hB;clear hB;rw[HR.out];go_wp2_with fail;refine(yE b hb _).mono ?_;rintro e w3 ⟨hB3,v3,rfl,_⟩;have HB3:=qe (HB.out.trans (hB3.mono HB.out.size));clear hB3;go_wp2_with fail;go_ret;exact⟨qQ HF.out.symm,HB3.out⟩
 | some X=>
   cases hrb:rows b with
   | none=>
     have hf:zk a b=0:=by unfold zk;rw[if_neg];intro h;rw[jr b,hrb]at h;exact absurd h.2 (by simp)
     have HF:=qe hf;have HR:=qe hra;have HR2:=qe hrb;clear hf hra hrb
     go_enter Tryz.func176,Tryz.ntmps176
     go_wp2_with fail;refine(yE a ha _).mono ?_;rintro e w2 ⟨hB,v,rfl,_⟩;have HB:=qe hB;clear hB;rw[HR.out];go_wp2_with fail;refine(yE b hb _).mono ?_;rintro e w3 ⟨hB3,v3,rfl,_⟩;have HB3:=qe (HB.out.trans (hB3.mono HB.out.size));clear hB3;rw[HR2.out];go_wp2_with fail;go_ret;exact⟨qQ HF.out.symm,HB3.out⟩
   | some Y=>
     obtain⟨x1,x2,x3⟩:=QP hra;obtain⟨y1,y2,y3⟩:=QP hrb;have hf:=compare_of hra hrb;have HF:=qe hf;have HR:=qe hra;have HR2:=qe hrb;have HX3:=qe x3;have HY3:=qe y3;clear hf hra hrb x2 y2 x3 y3
     go_enter Tryz.func176,Tryz.ntmps176
     go_wp2_with fail;refine(yE a ha _).mono ?_;rintro e w2 ⟨hB,v,rfl,hv⟩;obtain⟨ax,cx,rfl,hcx⟩:=qi (hv X HR.out);have hrowx:=QR (w:=w2) (ss:=lbs X) (by rw[je];exact hv X HR.out);have HB:=qe hB;clear hB hv;rw[HR.out];go_wp2_with fail;refine(yE b hb _).mono ?_;rintro e w3 ⟨hB3,v3,rfl,hv3⟩;obtain⟨ay,cy,rfl,hcy⟩:=qi (hv3 Y HR2.out);have hrowy:=QR (w:=w3) (ss:=lbs Y) (by rw[je];exact hv3 Y HR2.out);have hrowx:=hrowx.below hB3;have HB3:=qe (HB.out.trans (hB3.mono HB.out.size));have HROWX:=qe hrowx;have HROWY:=qe hrowy;clear hB3 hv3 hrowx hrowy;have hs3:=HB3.out.size;rw[HR2.out];go_wp2_with fail
     go_loopw [5,7,9,10] (fun xv yv _ _ wr=>∃i j:Nat,i≤X.length∧j≤Y.length∧xv= .slice ax i cx∧yv= .slice ay j cy∧zk a b=YQ X Y i j∧Below w3.heap.size w3 wr) (fun xv _ _ _ _=>Xk xv)
     case atStart=>exact⟨X.length,Y.length,Nat.le_refl _,Nat.le_refl _,rfl,rfl,HF.out,Below.refl _ _⟩
     case round=>
      obtain⟨i,j,hi,hj,rfl,rfl,hcmp,hB⟩:=hrel;have HCMP:=qe hcmp;have HBr:=qe hB;clear hcmp hB;rcases i with _ | i
      ·rcases j with _ | j
       ·have HN:=qe (HCMP.out.trans (cmpTo_zz X Y));have HE:=qe (HB3.out.trans (HBr.out.mono hs3));go_wp2_with fail;go_ret;exact⟨qQ HN.out.symm,HE.out⟩
       ·have HN:=qe (HCMP.out.trans (cmpTo_zs X Y (j:=j) (by omega)));have HE:=qe (HB3.out.trans (HBr.out.mono hs3));go_wp2_with fail;go_ret;exact⟨qQ HN.out.symm,HE.out⟩
      ·rcases j with _ | j
       ·have HN:=qe (HCMP.out.trans (cmpTo_sz X Y (i:=i) (by omega)));have HE:=qe (HB3.out.trans (HBr.out.mono hs3));go_wp2_with fail;go_ret;exact⟨qQ HN.out.symm,HE.out⟩
       ·obtain⟨ax',cx',hvx,hcellx⟩:=HROWX.out;obtain⟨ay',cy',hvy,hcelly⟩:=HROWY.out;simp only[Value.slice.injEq]at hvx hvy;obtain⟨rfl,hvx1,rfl⟩:=hvx;obtain⟨rfl,hvy1,rfl⟩:=hvy;clear hvx1 hvy1;obtain⟨bx,ox,rfl,hlx,cellx⟩:=hcellx i (by rw[je];omega);obtain⟨by',oy,rfl,hly,celly⟩:=hcelly j (by rw[je];omega);rw[lbs_get (by omega)]at cellx celly;have hcmp:=HCMP.out.trans (cmpTo_ss X Y (i:=i) (j:=j) (by omega) (by omega));have hxs:(⟨X[i].toArray⟩:ByteArray).size≤63:=(HX3.out _ (List.getElem_mem (by omega))).2;have hys:(⟨Y[j].toArray⟩:ByteArray).size≤63:=(HY3.out _ (List.getElem_mem (by omega))).2
        generalize (⟨X[i].toArray⟩:ByteArray)=p at cellx hcmp hxs
        generalize (⟨Y[j].toArray⟩:ByteArray)=q at celly hcmp hys
        have e1:=qf ((HBr.out.cell (p:=⟨bx,ox+i,none⟩) hlx).trans cellx);have e2:=qf ((HBr.out.cell (p:=⟨by',oy+j,none⟩) hly).trans celly);have HN:=qe hcmp;have wi:IntKind.i64.wrap (i:Int)=(i:Int):=IntWalk.i64_in _ (by omega);have wj:IntKind.i64.wrap (j:Int)=(j:Int):=IntWalk.i64_in _ (by omega);have lti:(i:Int)<(i:Int)+1:=by omega
        have ltj:(j:Int)<(j:Int)+1:=by omega
        have lci:(i:Int)≤(cx:Int):=by omega
        have lcj:(j:Int)≤(cy:Int):=by omega
        have nci:¬cx=0:=by omega
        have ncj:¬cy=0:=by omega
        have CP:Hid (∀g,Calls Tryz.prog 146 #[.string p] (gw wr g) fun e w''=>e= .returned (.string (kW p))∧∃g',w''=gw wr g'):=qe fun g=>qV (X7 p (by omega) _);have CQ:Hid (∀g,Calls Tryz.prog 146 #[.string q] (gw wr g) fun e w''=>e= .returned (.string (kW q))∧∃g',w''=gw wr g'):=qe fun g=>qV (X7 q (by omega) _);clear hcmp hcellx hcelly cellx celly;go_wp2_with fail;refine ql (by kernel_rfl) (by kernel_rfl) ?_
        repeat (refine wpQuiet_step (fun K hK=>?_);go_simp;(try simp only[wi,wj]);first | (refine hK _ ?_;clear hK K) | (apply Exists.intro;refine⟨fun _=>?_,hK _ ?_⟩;(first | (go_at_call 146;first | with_reducible exact CP.out _ | with_reducible exact CQ.out _));clear hK K))
        refine wpQuiet_nil ?_;intro W hW;have hBW:Below wr.heap.size wr W:=by obtain⟨g,rfl⟩:=hW;exact qB wr g
        have HBW:=qe (HBr.out.trans (hBW.mono HBr.out.size));clear hW hBW e1 e2 CP CQ
        generalize kW p=p' at HN
        generalize kW q=q' at HN
        obtain⟨c1,c2,c3⟩:=Vz p'.toList q'.toList;rw[← Lib.toList_data,← Lib.toList_data]at HN;have HE:=qe (HB3.out.trans (HBW.out.mono hs3))
        cases hl:Op.bytesLess p'.toList q'.toList
        ·cases he:p'.toList == q'.toList
         ·have hn:=HN.out;rw[c3 hl he,if_neg (by decide)]at hn;have HN':=qe hn;have he':(!(p'.toList == q'.toList))=true:=by rw[he];rfl
          clear HN c1 c2 c3 hn;go_wp2_with fail;go_ret;exact⟨qQ HN'.out.symm,HE.out⟩
         ·have hn:=HN.out;rw[c2 he,if_pos rfl]at hn;have HN':=qe hn;have he':(!(p'.toList == q'.toList))=false:=by rw[he];rfl
          clear HN c1 c2 c3 hn;go_wp2_with fail;refine ql (by kernel_rfl) (by kernel_rfl) ?_
          repeat (refine wpQuiet_step (fun K hK=>?_);go_simp;(try simp only[wi,wj]);first | (refine hK _ ?_;clear hK K))
          refine wpQuiet_nil ?_;intro W2 hW2;have Qj:Below W.heap.size W W2:=by obtain⟨g,rfl⟩:=hW2;exact qB W g
          have Zk:=qe (HBW.out.trans (Qj.mono HBW.out.size));clear hW2 Qj;go_wp2_with fail
          go_roundw
          case rel=>
           exact⟨i,j,by omega,by omega,rfl,rfl,HN'.out,Zk.out⟩
          case measure=>simp[Xk]
        ·have hn:=HN.out;rw[c1 hl,if_neg (by decide)]at hn;have HN':=qe hn;clear HN c1 c2 c3 hn;go_wp2_with fail;go_ret;exact⟨qQ HN'.out.symm,HE.out⟩
end Go.Proofs.YtpcmilhjpmlbpaaGreatDoor
