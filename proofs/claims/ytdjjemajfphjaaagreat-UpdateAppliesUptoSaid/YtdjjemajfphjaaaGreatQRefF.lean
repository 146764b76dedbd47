import Derived.Test.YtdjjemajfphjaaaGreatQZoneM
import Derived.Test.YtdjjemajfphjaaaGreatQRefC
import Derived.Test.YtdjjemajfphjaaaGreatQZoneC
import Derived.Laws.OwnMore
import Derived.Lib.Bytealg
set_option maxRecDepth 100000
set_option maxHeartbeats 2000000
namespace Go.Proofs.YtdjjemajfphjaaaGreat
open Go.RowKit Go.Shelf Go.WideMaps nm od
namespace zn
def thereB (c:Nat)(L:List Rec)(n:ByteArray):Bool:=decide (qm n∈Zo c L)
def owned (q:ByteArray)(l:List Rec):List Rec:=l.map fun r=>{ r with owner:=q}
theorem fold_eq {a b:ByteArray}{x y:List (List UInt8)}(ha:rows a=some x)(hb:rows b=some y):qm a=qm b↔jr x=jr y:=by
 constructor
 ·intro h
  have h1:=kg ha
  rw[h,kg hb]at h1
  exact(Option.some.inj h1).symm
 ·intro h
  rw[uf ha,uf hb,h]
theorem zJ {a b:ByteArray}(ha:ql a=true)(hb:ql b=true):qz a b=true↔qm a=qm b:=by
 obtain⟨x,hx⟩:=zT ha
 obtain⟨y,hy⟩:=zT hb
 rw[Kg hx hy,decide_eq_true_eq,fold_eq hx hy]
theorem Y4 (x:List (List UInt8)):(jr x).length=x.length:=by unfold jr;simp
theorem Xl {r n:ByteArray}{x y:List (List UInt8)}(hr:rows r=some x)(hn:rows n=some y){c:Nat}(hc:c≤y.length)(hcx:c≤x.length):qm n∈ups c (qm r)↔qU r n=true:=by
 have h1:=kg hr
 have hl:(jr x).length=x.length:=Y4 x
 rw[QZ hr hn,uf hn]
 unfold ups
 rw[jN h1,hl,Int.toNat_natCast,List.mem_map]
 constructor
 ·rintro⟨i,hi,e⟩
  rw[List.mem_range]at hi
  have h2:=(kV h1 (k:=(x.length:Int)-i) (by omega) (by omega)).2
  rw[e,← uf hn,kg hn,hl]at h2
  have h3:=Option.some.inj h2
  have h4:=congrArg List.length h3
  rw[List.length_drop,Y4,hl]at h4
  refine⟨by omega,?_⟩
  rw[h3]
  congr 1
  omega
 ·rintro⟨h2,h3⟩
  refine⟨x.length-y.length,List.mem_range.2 (by omega),?_⟩
  rw[(kV h1 (by omega) (by omega)).1,hl,← h3]
  congr 2
  omega
theorem fold_none {n:ByteArray}(h:ql n=false):qm n=ByteArray.empty:=by unfold qm;rw[if_neg (by rw[h];simp)]
theorem empty_check:ql ByteArray.empty=false:=by decide
structure Valid (qf:ByteArray)(L:List Rec):Prop where
 ap:ql qf=true
 small:L.length≤2000
 each:∀r∈L,ql r.owner=true∧jV r=false∧qU r.owner qf=true
 rules:yh qf L=none
theorem Valid.named {qf:ByteArray}{L:List Rec}(h:Valid qf L):jH L:=fun r hr=>(h.each r hr).1
theorem there_iff {qf:ByteArray}{L:List Rec}(hn:∀r∈L,ql r.owner=true∧qU r.owner qf=true){n:ByteArray}(hc:ql n=true)(hcn:qJ qf≤qJ n):
 thereB (qJ qf).toNat L n=true↔∃r∈L,zV r=false∧qU r.owner n=true:=by
 unfold thereB
 rw[decide_eq_true_eq,KT]
 obtain⟨y,hy⟩:=zT hc
 refine exists_congr fun r=>and_congr_right fun hr=>and_congr_right fun _=>?_
 obtain⟨x,hx⟩:=zT (hn r hr).1
 obtain⟨a,ha⟩:=zT (Ko (hn r hr).2).2
 have h1:=((QZ hx ha).1 (hn r hr).2).1
 rw[jN ha,jN hy]at hcn
 rw[jN ha,Int.toNat_natCast]
 exact Xl hx hy (by omega) h1
end zn
end Go.Proofs.YtdjjemajfphjaaaGreat
namespace Go.Proofs.YtdjjemajfphjaaaGreat
open Go.RowKit Go.Shelf Go.WideMaps nm od
namespace zn
theorem ky {L:List Rec}{κ:Key}{r:Rec}:r∈qD L κ↔r∈L∧zh r=κ:=by
 unfold qD
 rw[List.mem_filter,decide_eq_true_eq]
theorem type_of {r:Rec}(h:jV r=false):1≤r.typ∧r.typ≤65535∧r.typ≠255:=by
 unfold jV at h
 simp only[Bool.not_eq_false',Bool.and_eq_true,decide_eq_true_eq]at h
 have h1:=h.2
 unfold dt.yo at h1
 cases hh:dt.yL r.typ
 ·rw[hh]at h1;simp at h1
 ·unfold dt.yL at hh
  simp only[Bool.and_eq_true,Bool.or_eq_true,decide_eq_true_eq]at hh
  omega
theorem Vs {qf:ByteArray}{L:List Rec}(h:yh qf L=none):
 zl (jQ L) L.length=none∧zl (QF qf L) L.length=none∧xU L≠0∧qD L (qm qf,2)≠[]∧zl (atB L QQ) L.length=none∧zl (atB L (ZX (uj L))) L.length=none∧
  zl (atB L (xc (qm qf) (qD L) (zD L))) L.length=none∧zl (atB L (Qu (qD L))) L.length=none:=by
 unfold yh at h
 split at h
 ·cases h
 ·rename_i h1
  split at h
  ·cases h
  ·rename_i h2
   split at h
   ·cases h
   ·rename_i h3
    split at h
    ·cases h
    ·rename_i h4
     split at h
     ·cases h
     ·rename_i h5
      split at h
      ·cases h
      ·rename_i h6
       split at h
       ·cases h
       ·rename_i h7
        split at h
        ·cases h
        ·rename_i h8
         exact⟨h1,h2,h3,fun e=>h4 (by rw[e];rfl),h5,h6,h7,h8⟩
theorem at_all {L:List Rec}{bad:Rec→Bool}(h:zl (atB L bad) L.length=none):∀r∈L,bad r=false:=fun r hr=>by
 obtain⟨k,hk,rfl⟩:=List.getElem_of_mem hr
 have:=ZT h k hk
 rwa [uN hk]at this
end zn
end Go.Proofs.YtdjjemajfphjaaaGreat
namespace Go.Proofs.YtdjjemajfphjaaaGreat
open Go.RowKit Go.Shelf Go.WideMaps nm od
namespace zn
theorem firstB_iff {bad:Nat→Bool}{n:Nat}:zl bad n=none↔∀j,j<n→bad j=false:=⟨ZT,vI⟩
theorem xG {L:List Rec}{bad:Rec→Bool}:zl (atB L bad) L.length=none↔∀r∈L,bad r=false:=by
 refine⟨at_all,fun h=>vI fun j hj=>?_⟩
 rw[uN hj]
 exact h _ (List.getElem_mem hj)
theorem mem_take_at {L:List Rec}{i j:Nat}(hij:i<j)(hj:j<L.length):L[i]'(by omega)∈L.take j:=by
 rw[List.mem_take_iff_getElem]
 exact⟨i,by omega,rfl⟩
theorem twice_iff {L:List Rec}:zl (jQ L) L.length=none↔L.Pairwise (fun a b=>zf a≠zf b):=by
 refine⟨Qa,fun h=>vI fun j hj=>?_⟩
 rw[List.pairwise_iff_getElem]at h
 unfold jQ
 rw[List.getElem?_eq_getElem hj]
 simp only[decide_eq_false_iff_not,Nat.not_lt,Nat.le_zero_eq]
 unfold vw
 rw[List.length_eq_zero_iff,List.filter_eq_nil_iff]
 intro r hr
 rw[List.mem_take_iff_getElem]at hr
 obtain⟨i,hi,rfl⟩:=hr
 have:=h i j (by omega) hj (by omega)
 simpa using this
theorem soaC_fold (L:List Rec):∀c:Nat,L.foldl (fun c r=>UM r c) c=c+(L.filter fun r=>decide (r.typ=6)).length:=by
 induction L with
 | nil=>intro c;rfl
 | cons r L ih=>
   intro c
   rw[List.foldl_cons,ih,List.filter_cons]
   unfold UM
   by_cases h:r.typ=6
   ·simp[h];omega
   ·simp[h]
theorem KE (L:List Rec):xU L=(L.filter fun r=>decide (r.typ=6)).length:=by
 unfold xU
 rw[soaC_fold]
 omega
theorem KD {qf:ByteArray}{L:List Rec}:zl (QF qf L) L.length=none↔L.Pairwise (fun a b=>¬(a.typ=6∧b.typ=6))∧∀r∈L,r.typ=6→qz r.owner qf=true:=by
 rw[firstB_iff]
 constructor
 ·intro h
  refine⟨?_,fun r hr h6=>?_⟩
  ·rw[List.pairwise_iff_getElem]
   rintro i j hi hj hij ⟨e1,e2⟩
   have:=h j hj
   unfold QF at this
   rw[List.getElem?_eq_getElem hj]at this
   unfold JI at this
   simp only[e2,decide_true,Bool.true_and,Bool.or_eq_false_iff,decide_eq_false_iff_not,Nat.not_lt,Nat.le_zero_eq]at this
   have h2:=this.1
   rw[KE,List.length_eq_zero_iff,List.filter_eq_nil_iff]at h2
   have:=h2 _ (mem_take_at hij hj)
   simp[e1]at this
  ·obtain⟨j,hj,rfl⟩:=List.getElem_of_mem hr
   have:=h j hj
   unfold QF at this
   rw[List.getElem?_eq_getElem hj]at this
   unfold JI at this
   simp only[h6,decide_true,Bool.true_and,Bool.or_eq_false_iff,Bool.not_eq_false']at this
   exact this.2
 ·rintro⟨h1,h2⟩ j hj
  unfold QF
  rw[List.getElem?_eq_getElem hj]
  show JI qf (xU (L.take j)) L[j]=false
  unfold JI
  by_cases h6:L[j].typ=6
  ·rw[h2 _ (List.getElem_mem hj) h6]
   have:xU (L.take j)=0:=by
    rw[KE,List.length_eq_zero_iff,List.filter_eq_nil_iff]
    intro r hr
    rw[List.mem_take_iff_getElem]at hr
    obtain⟨i,hi,rfl⟩:=hr
    rw[List.pairwise_iff_getElem]at h1
    intro e
    exact h1 i j (by omega) hj (by omega) ⟨by simpa using e,h6⟩
   rw[this]
   simp
  ·simp[h6]
theorem Jp {L:List Rec}:xU L=0↔∀r∈L,r.typ≠6:=by
 rw[KE,List.length_eq_zero_iff,List.filter_eq_nil_iff]
 simp
theorem rows_nil {L L':List Rec}(hp:L.Perm L')(κ:Key):(qD L κ).length=(qD L' κ).length:=(hp.filter _).length_eq
theorem all_perm {L L':List Rec}(hp:L.Perm L'):uj L=uj L':=by
 funext n
 unfold uj
 rw[(hp.filter _).length_eq]
theorem below_perm {L L':List Rec}(hp:L.Perm L'):zD L=zD L':=by
 funext n
 unfold zD
 rw[((hp.flatMap_right _).filter _).length_eq]
theorem ttl_iff {L:List Rec}:(∀r∈L,Qu (qD L) r=false)↔∀r∈L,∀r'∈L,r.typ≠46→zh r=zh r'→r.ttl=r'.ttl:=by
 have hd:∀r∈L,∃h∈L,zh h=zh r∧((qD L (zh r)).headD r)=h:=fun r hr=>by
  have hm:r∈qD L (zh r):=ky.2 ⟨hr,rfl⟩
  cases hc:qD L (zh r) with
  | nil=>rw[hc]at hm;simp at hm
  | cons h l=>
    have:h∈qD L (zh r):=by rw[hc];simp
    exact⟨h,(ky.1 this).1,(ky.1 this).2,rfl⟩
 constructor
 ·intro h r hr r' hr' ht hk
  have ht':r'.typ≠46:=by
   have:r.typ=r'.typ:=congrArg Prod.snd hk
   rwa [← this]
  have h1:=h r hr
  have h2:=h r' hr'
  unfold Qu at h1 h2
  simp only[ht,ht',decide_false,Bool.not_false,Bool.true_and,Bool.not_eq_false',decide_eq_true_eq]at h1 h2
  obtain⟨a,_,_,ea⟩:=hd r hr
  obtain⟨b,_,_,eb⟩:=hd r' hr'
  rw[ea]at h1
  rw[eb]at h2
  have:a=b:=by
   rw[← ea,← eb,hk]
   cases hc:qD L (zh r') with
   | nil=>
     have hm:r'∈qD L (zh r'):=ky.2 ⟨hr',rfl⟩
     rw[hc]at hm;simp at hm
   | cons=>rfl
  rw[h1,h2,this]
 ·intro h r hr
  obtain⟨a,ha,hk,e⟩:=hd r hr
  unfold Qu
  by_cases ht:r.typ=46
  ·simp[ht]
  ·rw[e,h r hr a ha ht hk.symm]
   simp
open Classical in
noncomputable def codeC (qf:ByteArray) (l:List Rec):Option Int:=
 if ql qf=false then some 1 else if 2000<l.length then some 20
 else if ¬(∀r∈l,jV r=false) then some 8 else if ¬(∀r∈l,(!qU r.owner qf)=false) then some 5
 else if ¬l.Pairwise (fun a b=>zf a≠zf b) then some 19
 else if ¬(l.Pairwise (fun a b=>¬(a.typ=6∧b.typ=6))∧∀r∈l,r.typ=6→qz r.owner qf=true) then some 15
 else if(∀r∈l,r.typ≠6) then some 15
 else if(qD l (qm qf,2)).length=0 then some 16
 else if ¬(∀r∈l,QQ r=false) then some 22 else if ¬(∀r∈l,ZX (uj l) r=false) then some 17
 else if ¬(∀r∈l,xc (qm qf) (qD l) (zD l) r=false) then some 18
 else if ¬(∀r∈l,∀r'∈l,r.typ≠46→zh r=zh r'→r.ttl=r'.ttl) then some 21 else none
theorem code_of (qf:ByteArray)(l:List Rec):(yY qf l).map Prod.snd=codeC qf l:=by
 unfold yY codeC
 by_cases h1:ql qf=false
 ·rw[if_pos h1,if_pos h1];rfl
 rw[if_neg h1,if_neg h1]
 by_cases h2:2000<l.length
 ·rw[if_pos h2,if_pos h2];rfl
 rw[if_neg h2,if_neg h2]
 unfold ug
 cases h3:zl (atB l jV) l.length with
 | some k=>rw[if_pos (fun h=>by rw[xG.2 h]at h3;cases h3)];rfl
 | none=>
   rw[if_neg (not_not_intro (xG.1 h3))]
   cases h4:zl (atB l fun r=>!qU r.owner qf) l.length with
   | some k=>rw[if_pos (fun h=>by rw[xG.2 h]at h4;cases h4)];rfl
   | none=>
     rw[if_neg (not_not_intro (xG.1 h4))]
     show(yh qf l).map Prod.snd=_
     unfold yh
     cases h5:zl (jQ l) l.length with
     | some k=>rw[if_pos (fun h=>by rw[twice_iff.2 h]at h5;cases h5)];rfl
     | none=>
       rw[if_neg (not_not_intro (twice_iff.1 h5))]
       cases h6:zl (QF qf l) l.length with
       | some k=>rw[if_pos (fun h=>by rw[KD.2 h]at h6;cases h6)];rfl
       | none=>
         rw[if_neg (not_not_intro (KD.1 h6))]
         by_cases h7:xU l=0
         ·rw[if_pos (Jp.1 h7)]
          simp only[if_pos h7]
          rfl
         ·rw[if_neg (fun h=>h7 (Jp.2 h))]
          simp only[if_neg h7]
          by_cases h8:(qD l (qm qf,2)).length=0
          ·rw[if_pos h8,if_pos h8];rfl
          ·rw[if_neg h8,if_neg h8]
           cases h9:zl (atB l QQ) l.length with
           | some k=>rw[if_pos (fun h=>by rw[xG.2 h]at h9;cases h9)];rfl
           | none=>
             rw[if_neg (not_not_intro (xG.1 h9))]
             cases h10:zl (atB l (ZX (uj l))) l.length with
             | some k=>rw[if_pos (fun h=>by rw[xG.2 h]at h10;cases h10)];rfl
             | none=>
               rw[if_neg (not_not_intro (xG.1 h10))]
               cases h11:zl (atB l (xc (qm qf) (qD l) (zD l))) l.length with
               | some k=>rw[if_pos (fun h=>by rw[xG.2 h]at h11;cases h11)];rfl
               | none=>
                 rw[if_neg (not_not_intro (xG.1 h11))]
                 cases h12:zl (atB l (Qu (qD l))) l.length with
                 | some k=>rw[if_pos (fun h=>by rw[xG.2 (ttl_iff.2 h)]at h12;cases h12)];rfl
                 | none=>rw[if_neg (not_not_intro (ttl_iff.1 (xG.1 h12)))];rfl
theorem bad5_perm {L L':List Rec}(hp:L.Perm L')(low:ByteArray)(r:Rec):xc low (qD L) (zD L) r=xc low (qD L') (zD L') r:=by
 unfold xc
 rw[rows_nil hp,below_perm hp]
theorem codeC_perm {qf:ByteArray}{l l':List Rec}(hp:l.Perm l'):codeC qf l=codeC qf l':=by
 have e:∀P:Rec→Prop,(∀r∈l,P r)↔(∀r∈l',P r):=fun P=>⟨fun h r hr=>h r (hp.mem_iff.2 hr),fun h r hr=>h r (hp.mem_iff.1 hr)⟩
 unfold codeC
 have e1:l.Pairwise (fun a b=>zf a≠zf b)↔l'.Pairwise (fun a b=>zf a≠zf b):=hp.pairwise_iff (fun h=>Ne.symm h)
 have e2:l.Pairwise (fun a b:Rec=>¬(a.typ=6∧b.typ=6))↔l'.Pairwise (fun a b=>¬(a.typ=6∧b.typ=6)):=hp.pairwise_iff (fun h k=>h ⟨k.2,k.1⟩)
 have e3:(∀r∈l,∀r'∈l,r.typ≠46→zh r=zh r'→r.ttl=r'.ttl)↔(∀r∈l',∀r'∈l',r.typ≠46→zh r=zh r'→r.ttl=r'.ttl):=by
  rw[e]
  exact forall_congr' fun r=>forall_congr' fun _=>e _
 simp only[e,e1,e2,hp.length_eq,rows_nil hp,all_perm hp,bad5_perm hp]
theorem newE_perm {qf:ByteArray}{l l':List Rec}(hp:l.Perm l'):(yY qf l).map Prod.snd=(yY qf l').map Prod.snd:=by rw[code_of,code_of,codeC_perm hp]
theorem newE_none {qf:ByteArray}{l:List Rec}:yY qf l=none↔(yY qf l).map Prod.snd=none:=by simp
theorem QC {qf:ByteArray}{l:List Rec}(h:yY qf l=none):Valid qf l:=by
 unfold yY at h
 split at h
 ·cases h
 ·rename_i h1
  split at h
  ·cases h
  ·rename_i h2
   split at h
   ·cases h
   ·rename_i h3
    refine⟨by simpa using h1,by omega,?_,h⟩
    unfold ug at h3
    split at h3
    ·cases h3
    ·rename_i h4
     split at h3
     ·cases h3
     ·rename_i h5
      intro r hr
      have a1:=at_all h4 r hr
      refine⟨?_,a1,by simpa using at_all h5 r hr⟩
      unfold jV at a1
      simp only[Bool.not_eq_false',Bool.and_eq_true]at a1
      exact a1.1.1.1.1
theorem newE_of {qf:ByteArray}{l l':List Rec}(hp:l.Perm l')(h:yY qf l=none):yY qf l'=none:=by
 rw[newE_none,← newE_perm hp,← newE_none];exact h
end zn
end Go.Proofs.YtdjjemajfphjaaaGreat
namespace Go.Proofs.YtdjjemajfphjaaaGreat
open Go.RowKit Go.Shelf nm
namespace nm
end nm
end Go.Proofs.YtdjjemajfphjaaaGreat
namespace Go.Proofs.YtdjjemajfphjaaaGreat
open Go.RowKit Go.Shelf nm
namespace nm
theorem XT {s:ByteArray}{ls:List (List UInt8)}(h:rows s=some ls):yZ (uh s)=lbs (jr ls):=by
 have h1:=zX (KI h)
 unfold yZ
 rw[if_pos (vX (KI h)),h1.2.2.2,od.Y1 _ _ h1.2.1]
 rfl
theorem Va:∀x y:List UInt8,(Op.bytesLess x y=true→Lib.compareBytes x y= -1)∧((x == y)=true→Lib.compareBytes x y=0)∧(Op.bytesLess x y=false→(x == y)=false→Lib.compareBytes x y=1)
 | [],[]=>by simp[Op.bytesLess,Lib.compareBytes]
 | [],_ :: _=>by simp[Op.bytesLess,Lib.compareBytes]
 | _ :: _,[]=>by simp[Op.bytesLess,Lib.compareBytes]
 | a :: x,b :: y=>by
   obtain⟨h1,h2,h3⟩:=Va x y
   unfold Lib.compareBytes
   by_cases hab:a=b
   ·subst hab
    have hlt:¬a<a:=UInt8.lt_irrefl a
    simp only[Op.bytesLess,hlt,if_false,decide_false,Bool.false_or,beq_self_eq_true,Bool.true_and,List.cons_beq_cons]
    exact⟨h1,h2,h3⟩
   ·have hb:(a == b)=false:=by simpa using hab
    by_cases hlt:a<b
    ·simp[Op.bytesLess,hlt,hb]
    ·have h':b<a:=UInt8.lt_of_le_of_ne (UInt8.not_lt.1 hlt) (Ne.symm hab)
     simp[Op.bytesLess,hlt,hb,h']
def YB (X Y:List (List UInt8))(i j:Nat):Int:=yB (lbs ((jr X).take i)).reverse (lbs ((jr Y).take j)).reverse
theorem cmpTo_zz (X Y:List (List UInt8)):YB X Y 0 0=0:=by simp[YB,lbs,yB]
theorem cmpTo_zs (X Y:List (List UInt8)){j:Nat}(h:j<Y.length):YB X Y 0 (j+1)= -1:=by
 unfold YB
 rw[vU Y h,List.reverse_append]
 simp[lbs,yB]
theorem cmpTo_sz (X Y:List (List UInt8)){i:Nat}(h:i<X.length):YB X Y (i+1) 0=1:=by
 unfold YB
 rw[vU X h,List.reverse_append]
 simp[lbs,yB]
theorem cmpTo_ss (X Y:List (List UInt8)){i j:Nat}(h:i<X.length)(h':j<Y.length):YB X Y (i+1) (j+1)=if Lib.compareBytes (uh ⟨X[i].toArray⟩).data.toList (uh ⟨Y[j].toArray⟩).data.toList=0 then YB X Y i j else Lib.compareBytes (uh ⟨X[i].toArray⟩).data.toList (uh ⟨Y[j].toArray⟩).data.toList:=by
 unfold YB
 rw[vU X h,vU Y h',List.reverse_append,List.reverse_append]
 rfl
theorem compare_of {a b:ByteArray}{X Y:List (List UInt8)}(ha:rows a=some X)(hb:rows b=some Y):q8 a b=YB X Y X.length Y.length:=by
 unfold q8 YB
 have e:∀Z:List (List UInt8),(jr Z).take Z.length=jr Z:=fun Z=>List.take_of_length_le (by unfold jr;simp)
 rw[if_pos ⟨vX ha,vX hb⟩,XT ha,XT hb,e,e]
end nm
def VM:Value→Nat
 | .slice _ n _=>n
 | _=>0
theorem rcompare_any (a b:ByteArray)(ha:a.size≤1099511627776)(hb:b.size≤1099511627776)(w:World):Calls Tryz.prog 160 #[.string a,.string b] w fun e w'=>e= .returned (.int .i64 (q8 a b))∧Below w.heap.size w w':=by
 cases hra:rows a with
 | none=>
   have hf:q8 a b=0:=by unfold q8;rw[if_neg];intro h;rw[jf,hra]at h;exact absurd h.1 (by simp)
   have HF:=Lib.hid hf;have HR:=Lib.hid hra
   clear hf hra
   go_enter Tryz.func160,Tryz.ntmps160
   go_wp2_with fail
   refine(yC a ha _).mono ?_
   rintro e w2 ⟨hB,v,rfl,_⟩
   have HB:=Lib.hid hB
   clear hB
   rw[HR.out]
   go_wp2_with fail
   refine(yC b hb _).mono ?_
   rintro e w3 ⟨hB3,v3,rfl,_⟩
   have HB3:=Lib.hid (HB.out.trans (hB3.mono HB.out.size))
   clear hB3
   go_wp2_with fail
   go_ret
   exact⟨qH HF.out.symm,HB3.out⟩
 | some X=>
   cases hrb:rows b with
   | none=>
     have hf:q8 a b=0:=by unfold q8;rw[if_neg];intro h;rw[jf b,hrb]at h;exact absurd h.2 (by simp)
     have HF:=Lib.hid hf;have HR:=Lib.hid hra;have HR2:=Lib.hid hrb
     clear hf hra hrb
     go_enter Tryz.func160,Tryz.ntmps160
     go_wp2_with fail
     refine(yC a ha _).mono ?_
     rintro e w2 ⟨hB,v,rfl,_⟩
     have HB:=Lib.hid hB
     clear hB
     rw[HR.out]
     go_wp2_with fail
     refine(yC b hb _).mono ?_
     rintro e w3 ⟨hB3,v3,rfl,_⟩
     have HB3:=Lib.hid (HB.out.trans (hB3.mono HB.out.size))
     clear hB3
     rw[HR2.out]
     go_wp2_with fail
     go_ret
     exact⟨qH HF.out.symm,HB3.out⟩
   | some Y=>
     obtain⟨x1,x2,x3⟩:=Qw hra
     obtain⟨y1,y2,y3⟩:=Qw hrb
     have hf:=compare_of hra hrb
     have HF:=Lib.hid hf;have HR:=Lib.hid hra;have HR2:=Lib.hid hrb;have HX3:=Lib.hid x3;have HY3:=Lib.hid y3
     clear hf hra hrb x2 y2 x3 y3
     go_enter Tryz.func160,Tryz.ntmps160
     go_wp2_with fail
     refine(yC a ha _).mono ?_
     rintro e w2 ⟨hB,v,rfl,hv⟩
     obtain⟨ax,cx,rfl,hcx⟩:=qC (hv X HR.out)
     have hrowx:=Qz (w:=w2) (ss:=lbs X) (by rw[jh];exact hv X HR.out)
     have HB:=Lib.hid hB
     clear hB hv
     rw[HR.out]
     go_wp2_with fail
     refine(yC b hb _).mono ?_
     rintro e w3 ⟨hB3,v3,rfl,hv3⟩
     obtain⟨ay,cy,rfl,hcy⟩:=qC (hv3 Y HR2.out)
     have hrowy:=Qz (w:=w3) (ss:=lbs Y) (by rw[jh];exact hv3 Y HR2.out)
     have hrowx:=hrowx.below hB3
     have HB3:=Lib.hid (HB.out.trans (hB3.mono HB.out.size))
     have HROWX:=Lib.hid hrowx;have HROWY:=Lib.hid hrowy
     clear hB3 hv3 hrowx hrowy
     have hs3:=HB3.out.size
     rw[HR2.out]
     go_wp2_with fail
     go_loopw [5,7,9,10] (fun xv yv _ _ wr=>∃i j:Nat,i≤X.length∧j≤Y.length∧xv= .slice ax i cx∧yv= .slice ay j cy∧q8 a b=YB X Y i j∧Below w3.heap.size w3 wr) (fun xv _ _ _ _=>VM xv)
     case atStart=>exact⟨X.length,Y.length,Nat.le_refl _,Nat.le_refl _,rfl,rfl,HF.out,Below.refl _ _⟩
     case round=>
      obtain⟨i,j,hi,hj,rfl,rfl,hcmp,hB⟩:=hrel
      have HCMP:=Lib.hid hcmp;have HBr:=Lib.hid hB
      clear hcmp hB
      rcases i with _ | i
      ·rcases j with _ | j
       ·have HN:=Lib.hid (HCMP.out.trans (cmpTo_zz X Y))
        have HE:=Lib.hid (HB3.out.trans (HBr.out.mono hs3))
        go_wp2_with fail
        go_ret
        exact⟨qH HN.out.symm,HE.out⟩
       ·have HN:=Lib.hid (HCMP.out.trans (cmpTo_zs X Y (j:=j) (by omega)))
        have HE:=Lib.hid (HB3.out.trans (HBr.out.mono hs3))
        go_wp2_with fail
        go_ret
        exact⟨qH HN.out.symm,HE.out⟩
      ·rcases j with _ | j
       ·have HN:=Lib.hid (HCMP.out.trans (cmpTo_sz X Y (i:=i) (by omega)))
        have HE:=Lib.hid (HB3.out.trans (HBr.out.mono hs3))
        go_wp2_with fail
        go_ret
        exact⟨qH HN.out.symm,HE.out⟩
       ·obtain⟨ax',cx',hvx,hcellx⟩:=HROWX.out
        obtain⟨ay',cy',hvy,hcelly⟩:=HROWY.out
        simp only[Value.slice.injEq]at hvx hvy
        obtain⟨rfl,hvx1,rfl⟩:=hvx
        obtain⟨rfl,hvy1,rfl⟩:=hvy
        clear hvx1 hvy1
        obtain⟨bx,ox,rfl,hlx,cellx⟩:=hcellx i (by rw[jh];omega)
        obtain⟨by',oy,rfl,hly,celly⟩:=hcelly j (by rw[jh];omega)
        rw[lbs_get (by omega)]at cellx celly
        have hcmp:=HCMP.out.trans (cmpTo_ss X Y (i:=i) (j:=j) (by omega) (by omega))
        have hxs:(⟨X[i].toArray⟩:ByteArray).size≤63:=(HX3.out _ (List.getElem_mem (by omega))).2
        have hys:(⟨Y[j].toArray⟩:ByteArray).size≤63:=(HY3.out _ (List.getElem_mem (by omega))).2
        generalize (⟨X[i].toArray⟩:ByteArray)=p at cellx hcmp hxs
        generalize (⟨Y[j].toArray⟩:ByteArray)=q at celly hcmp hys
        have e1:=qh ((HBr.out.cell (p:=⟨bx,ox+i,none⟩) hlx).trans cellx)
        have e2:=qh ((HBr.out.cell (p:=⟨by',oy+j,none⟩) hly).trans celly)
        have HN:=Lib.hid hcmp
        have wi:IntKind.i64.wrap (i:Int)=(i:Int):=IntWalk.i64_in _ (by omega)
        have wj:IntKind.i64.wrap (j:Int)=(j:Int):=IntWalk.i64_in _ (by omega)
        have lti:(i:Int)<(i:Int)+1:=by omega
        have ltj:(j:Int)<(j:Int)+1:=by omega
        have lci:(i:Int)≤(cx:Int):=by omega
        have lcj:(j:Int)≤(cy:Int):=by omega
        have nci:¬cx=0:=by omega
        have ncj:¬cy=0:=by omega
        have CP:Hid (∀g,Calls Tryz.prog 136 #[.string p] (gw wr g) fun e w''=>e= .returned (.string (uh p))∧∃g',w''=gw wr g'):=Lib.hid fun g=>qL (XB p (by omega) _)
        have CQ:Hid (∀g,Calls Tryz.prog 136 #[.string q] (gw wr g) fun e w''=>e= .returned (.string (uh q))∧∃g',w''=gw wr g'):=Lib.hid fun g=>qL (XB q (by omega) _)
        clear hcmp hcellx hcelly cellx celly
        go_wp2_with fail
        refine qj (by kernel_rfl) (by kernel_rfl) ?_
        repeat (refine wpQuiet_step (fun K hK=>?_);go_simp;(try simp only[wi,wj]);first | (refine hK _ ?_;clear hK K) | (apply Exists.intro;refine⟨fun _=>?_,hK _ ?_⟩;(first | (go_at_call 136;first | with_reducible exact CP.out _ | with_reducible exact CQ.out _));clear hK K))
        refine wpQuiet_nil ?_
        intro W hW
        have hBW:Below wr.heap.size wr W:=by obtain⟨g,rfl⟩:=hW;exact qp wr g
        have HBW:=Lib.hid (HBr.out.trans (hBW.mono HBr.out.size))
        clear hW hBW e1 e2 CP CQ
        generalize uh p=p' at HN
        generalize uh q=q' at HN
        obtain⟨c1,c2,c3⟩:=Va p'.toList q'.toList
        rw[← Lib.toList_data,← Lib.toList_data]at HN
        have HE:=Lib.hid (HB3.out.trans (HBW.out.mono hs3))
        cases hl:Op.bytesLess p'.toList q'.toList
        ·cases he:p'.toList == q'.toList
         ·have hn:=HN.out
          rw[c3 hl he,if_neg (by decide)]at hn
          have HN':=Lib.hid hn
          have he':(!(p'.toList == q'.toList))=true:=by rw[he];rfl
          clear HN c1 c2 c3 hn
          go_wp2_with fail
          go_ret
          exact⟨qH HN'.out.symm,HE.out⟩
         ·have hn:=HN.out
          rw[c2 he,if_pos rfl]at hn
          have HN':=Lib.hid hn
          have he':(!(p'.toList == q'.toList))=false:=by rw[he];rfl
          clear HN c1 c2 c3 hn
          go_wp2_with fail
          refine qj (by kernel_rfl) (by kernel_rfl) ?_
          repeat (refine wpQuiet_step (fun K hK=>?_);go_simp;(try simp only[wi,wj]);first | (refine hK _ ?_;clear hK K))
          refine wpQuiet_nil ?_
          intro W2 hW2
          have xZ:Below W.heap.size W W2:=by obtain⟨g,rfl⟩:=hW2;exact qp W g
          have QV:=Lib.hid (HBW.out.trans (xZ.mono HBW.out.size))
          clear hW2 xZ
          go_wp2_with fail
          go_roundw
          case rel=>
           exact⟨i,j,by omega,by omega,rfl,rfl,HN'.out,QV.out⟩
          case measure=>simp[VM]
        ·have hn:=HN.out
         rw[c1 hl,if_neg (by decide)]at hn
         have HN':=Lib.hid hn
         clear HN c1 c2 c3 hn
         go_wp2_with fail
         go_ret
         exact⟨qH HN'.out.symm,HE.out⟩
end Go.Proofs.YtdjjemajfphjaaaGreat
