import Derived.Test.YtpcmilhjpmlbpaaGreatDoorChecked
import Derived.Test.YtpcmilhjpmlbpaaGreatDoorQMem
import Derived.RangeFuncNested
import Derived.RangeFuncBound
import Derived.RangeFuncCalls
import Derived.RangeFuncLeaves
import Derived.RangeFuncBox
import Derived.Shelf.Abstract
import Derived.Shelf.RegionOpen
import Derived.OwnWalkIn
import Derived.TacticsInMore
import Derived.LoopNIn
import Derived.LoopIn
import Derived.Outline
import Derived.WalkSpells
set_option maxRecDepth 100000
set_option maxHeartbeats 2000000
namespace Go.Proofs.YtpcmilhjpmlbpaaGreatDoor.nm
def qJ (s:ByteArray)(k:Nat):Nat:=(s.data.toList[k]?.getD 0).toNat
def walk (s:ByteArray):Nat→Nat→List (Nat×ByteArray)
 | 0,_=>[]
 | f+1,k=>
   if k<s.size then
    if 63<qJ s k∨s.size<k+1+qJ s k then []
    else(k,s.extract (k+1) (k+1+qJ s k)) :: (if qJ s k=0 then [] else walk s f (k+1+qJ s k))
   else []
def marks (s:ByteArray):List (Nat×ByteArray):=walk s (s.size+1) 0
def ends (s:ByteArray)(p:Nat×ByteArray):Bool:=p.2.size == 0 && p.1+1 == s.size
def qj (s:ByteArray):Bool:=decide (s.size≤255) && (marks s).any (ends s)
theorem walk_at {s:ByteArray}{f k:Nat}(hk:k<s.size)(h:¬(63<qJ s k∨s.size<k+1+qJ s k)):
 walk s (f+1) k=(k,s.extract (k+1) (k+1+qJ s k)) :: (if qJ s k=0 then [] else walk s f (k+1+qJ s k)):=by
 rw[walk,if_pos hk,if_neg h]
theorem KR {s:ByteArray}{f k:Nat}(h:s.size≤k∨63<qJ s k∨s.size<k+1+qJ s k):walk s f k= []:=by
 cases f with
 | zero=>rfl
 | succ f=>
   rw[walk]
   split
   ·split
    ·rfl
    ·rename_i h1 h2
     exact absurd (h.resolve_left (by omega)) h2
   ·rfl
theorem zu {s:ByteArray}{k:Nat}(h:k<s.size):qJ s k=s[k].toNat:=by
 unfold qJ
 rw[List.getElem?_eq_getElem (by simpa using h)];rfl
theorem walk_length (s:ByteArray):∀(f k:Nat),k≤s.size→(walk s f k).length≤s.size-k:=by
 intro f
 induction f with
 | zero=>intro k _;simp[walk]
 | succ f ih=>
   intro k hk
   rw[walk]
   split
   ·split
    ·simp
    ·rename_i h1 h2
     rw[List.length_cons]
     split
     ·simp;omega
     ·have:=ih (k+1+qJ s k) (by omega)
      omega
   ·simp
theorem uV (s:ByteArray):(marks s).length≤s.size:=by
 have:=walk_length s (s.size+1) 0 (Nat.zero_le _)
 unfold marks
 omega
def qG (s:ByteArray):Int:=if qj s then((marks s).length:Int)-1 else -1
def zG (s:ByteArray)(k:Int):ByteArray:=
 if 0≤k∧k≤qG s then s.extract (((marks s)[(qG s-k).toNat]?).getD (0,ByteArray.empty)).1 s.size else ByteArray.empty
theorem mark_le (s:ByteArray):∀(f k:Nat) (p:Nat×ByteArray),p∈walk s f k→p.1<s.size:=by
 intro f
 induction f with
 | zero=>intro k p h;simp[walk]at h
 | succ f ih=>
   intro k p h
   rw[walk]at h
   split at h
   ·split at h
    ·simp at h
    ·rcases List.mem_cons.1 h with rfl | h
     ·assumption
     ·split at h
      ·simp at h
      ·exact ih _ p h
   ·simp at h
theorem marks_lt {s:ByteArray}{p:Nat×ByteArray}(h:p∈marks s):p.1<s.size:=mark_le s _ _ p h
end Go.Proofs.YtpcmilhjpmlbpaaGreatDoor.nm
namespace Go.Proofs.YtpcmilhjpmlbpaaGreatDoor.dt
open nm
def vU (n:Int)(d:ByteArray):Int:=if(d.size:Int)<n then -1 else n
def yI (d:ByteArray):Int:=if d.size=0 then -1 else if d.size≤qJ d 0 then -1 else 1+(qJ d 0:Int)
def jC (d:ByteArray):Nat→Nat→Int
 | 0,_=>-1
 | f+1,k=>if k<d.size then(if yI (d.extract k d.size)<0 then -1 else jC d f (k+(yI (d.extract k d.size)).toNat)) else if k=0 then -1 else(k:Int)
def Qi (d:ByteArray):Int:=jC d (d.size+1) 0
def xn (d:ByteArray):Int:=if d.size=0 then -1 else(d.size:Int)
def Zj (d:ByteArray):Int:=if d.size<2 then -1 else if qJ d 0=0∧qJ d 1=0 then -1 else 2
def Zm (d:ByteArray):Int:=if d.size=0 then -1 else if qJ d 0=0 then -1 else yI d
def QW (d:ByteArray):Nat→Nat→Nat
 | 0,k=>k
 | f+1,k=>if k<d.size∧0<qJ d k then QW d f (k+1+qJ d k) else k
def xe (d:ByteArray):Nat:=QW d (d.size+1) 0
def xR (d:ByteArray):Int:=if d.size≤xe d then -1 else if qj (d.extract 0 (xe d+1))=true then(xe d:Int)+1 else -1
theorem size_extract (d:ByteArray){k:Nat}(_h:k≤d.size):(d.extract k d.size).size=d.size-k:=by
 rw[ByteArray.size_extract];omega
theorem QJ (d:ByteArray):yI d= -1∨(1≤yI d∧yI d≤d.size∧yI d≤256):=by
 unfold yI
 split
 ·exact .inl rfl
 ·split
  ·exact .inl rfl
  ·have:qJ d 0<256:=UInt8.toNat_lt _
   omega
theorem Yz {d:ByteArray}{f k:Nat}(h:¬(k<d.size∧0<qJ d k)):QW d f k=k:=by
 cases f with
 | zero=>rfl
 | succ f=>rw[QW,if_neg h]
theorem UY {d:ByteArray}{f k:Nat}(h:k<d.size)(h2:0<qJ d k):QW d (f+1) k=QW d f (k+1+qJ d k):=by
 rw[QW,if_pos ⟨h,h2⟩]
theorem J4 {d:ByteArray}{f k:Nat}(h:d.size≤k):jC d (f+1) k=if k=0 then -1 else(k:Int):=by
 rw[jC,if_neg (by omega)]
theorem UE {d:ByteArray}{f k:Nat}(h:k<d.size)(h2:yI (d.extract k d.size)<0):jC d (f+1) k= -1:=by
 rw[jC,if_pos h,if_pos h2]
theorem J5 {d:ByteArray}{f k:Nat}(h:k<d.size)(h2:¬yI (d.extract k d.size)<0):jC d (f+1) k=jC d f (k+(yI (d.extract k d.size)).toNat):=by
 rw[jC,if_pos h,if_neg h2]
def bitB (r:ByteArray)(k:Nat):Bool:=decide (qJ r (2+k / 8) / 2 ^ (7-k % 8) % 2=1)
def yt (r:ByteArray)(k:Nat):List Int:=((List.range k).filter (bitB r)).map (fun j=>((qJ r 0*256+j:Nat):Int))
def kC (r:ByteArray)(last:Int):Prop:=
 r.size<3∨(qJ r 0:Int)≤last∨qJ r 1<1∨32<qJ r 1∨r.size<2+qJ r 1∨qJ r (1+qJ r 1)=0
instance (r:ByteArray)(last:Int):Decidable (kC r last):=by unfold kC;infer_instance
def yM:Nat→ByteArray→Int→List Int→Option (List Int)
 | 0,_,_,_=>none
 | f+1,r,last,acc=>if r.size=0 then some acc else if kC r last then none
    else yM f (r.extract (2+qJ r 1) r.size) (qJ r 0) (acc ++ yt r (8*qJ r 1))
def yJ (d:ByteArray):Option (List Int):=
 match yM (d.size+1) d (-1) [] with
 | some l=>if l.head? =some 0 then none else some l
 | none=>none
def Qt (d:ByteArray):Int:=if(yJ d).isSome=true then(d.size:Int) else -1
theorem U7 (r:ByteArray)(k:Nat):yt r (k+1)=yt r k ++ (if bitB r k=true then [((qJ r 0*256+k:Nat):Int)] else []):=by
 unfold yt
 rw[List.range_succ,List.filter_append,List.map_append]
 congr 1
 by_cases h:bitB r k=true <;> simp[h]
theorem XX (r:ByteArray)(k:Nat):(yt r k).length≤k:=by
 unfold yt
 rw[List.length_map]
 exact Nat.le_trans (List.length_filter_le _ _) (by simp)
theorem QH {f:Nat}{r:ByteArray}{last:Int}{acc:List Int}(h:r.size=0):yM (f+1) r last acc=some acc:=by rw[yM,if_pos h]
theorem xm {f:Nat}{r:ByteArray}{last:Int}{acc:List Int}(h:r.size≠0)(h2:kC r last):yM (f+1) r last acc=none:=by rw[yM,if_neg h,if_pos h2]
theorem xU {f:Nat}{r:ByteArray}{last:Int}{acc:List Int}(h:r.size≠0)(h2:¬kC r last):yM (f+1) r last acc=yM f (r.extract (2+qJ r 1) r.size) (qJ r 0) (acc ++ yt r (8*qJ r 1)):=by rw[yM,if_neg h,if_neg h2]
end Go.Proofs.YtpcmilhjpmlbpaaGreatDoor.dt
namespace Go.Proofs.YtpcmilhjpmlbpaaGreatDoor.nm
def yR:Nat→List UInt8→Option (List (List UInt8))
 | 0,_=>none
 | _+1,[]=>none
 | f+1,c :: r=>
   if c.toNat=0 then(if r= [] then some [] else none)
   else if 63<c.toNat∨r.length<c.toNat then none
   else(yR f (r.drop c.toNat)).map (r.take c.toNat :: ·)
def rows (s:ByteArray):Option (List (List UInt8)):=if s.size≤255 then yR (s.size+1) s.data.toList else none
def zQ:List (List UInt8)→List UInt8
 | []=>[0]
 | l :: ls=>UInt8.ofNat l.length :: (l ++ zQ ls)
def QA (ls:List (List UInt8)):Prop:=∀l∈ls,0<l.length∧l.length≤63
theorem KU:∀(f:Nat) (r:List UInt8) (ls:List (List UInt8)),yR f r=some ls→QA ls∧r=zQ ls:=by
 intro f
 induction f with
 | zero=>intro r ls h;simp[yR]at h
 | succ f ih=>
   intro r ls h
   cases r with
   | nil=>simp[yR]at h
   | cons c r=>
     rw[yR]at h
     split at h
     ·rename_i hc
      split at h
      ·rename_i hr
       cases h
       have h0:c=0:=UInt8.toNat_inj.1 hc
       exact⟨fun l hl=>by simp at hl,by rw[hr,h0];rfl⟩
      ·cases h
     ·split at h
      ·cases h
      ·rename_i hc hb
       cases hs:yR f (r.drop c.toNat) with
       | none=>rw[hs]at h;cases h
       | some l2=>
         rw[hs]at h
         simp only[Option.map_some,Option.some.injEq]at h
         obtain⟨h1,h2⟩:=ih _ _ hs
         have hlen:(r.take c.toNat).length=c.toNat:=by rw[List.length_take];omega
         subst h
         refine⟨fun l hl=>?_,?_⟩
         ·rcases List.mem_cons.1 hl with rfl | hl
          ·omega
          ·exact h1 l hl
         ·rw[zQ,hlen,← h2,List.take_append_drop]
          congr 1
          simp
theorem Jz:∀(ls:List (List UInt8)) (f:Nat),QA ls→ls.length<f→yR f (zQ ls)=some ls:=by
 intro ls
 induction ls with
 | nil=>
   intro f _ hf
   obtain⟨f,rfl⟩:∃g,f=g+1:=⟨f-1,by omega⟩
   rfl
 | cons l ls ih=>
   intro f ho hf
   obtain⟨f,rfl⟩:∃g,f=g+1:=⟨f-1,by simp at hf;omega⟩
   obtain⟨h0,h1⟩:=ho l (by simp)
   have hn:(UInt8.ofNat l.length).toNat=l.length:=by rw[UInt8.toNat_ofNat'];omega
   rw[zQ,yR,hn,if_neg (by omega),if_neg (by simp;omega)]
   rw[List.drop_left,List.take_left,ih f (fun l hl=>ho l (by simp[hl])) (by simpa using hf)]
   rfl
theorem jH (ls:List (List UInt8)):ls.length<(zQ ls).length:=by
 induction ls with
 | nil=>simp[zQ]
 | cons l ls ih=>simp[zQ];omega
theorem splitL_fuel {f g:Nat}{r:List UInt8}(hf:r.length<f)(hg:r.length<g):yR f r=yR g r:=by
 cases h:yR f r with
 | some ls=>
   obtain⟨h1,h2⟩:=KU f r ls h
   rw[h2,Jz ls g h1 (by rw[h2]at hg;have:=jH ls;omega)]
 | none=>
   cases h':yR g r with
   | none=>rfl
   | some ls=>
     obtain⟨h1,h2⟩:=KU g r ls h'
     rw[h2,Jz ls f h1 (by rw[h2]at hf;have:=jH ls;omega)]at h
     cases h
def jE:Nat→List (List UInt8)→List (Nat×ByteArray)
 | k,[]=>[(k,ByteArray.empty)]
 | k,l :: ls=>(k,⟨l.toArray⟩) :: jE (k+1+l.length) ls
theorem zP (s:ByteArray)(a b:Nat):(s.extract a b).data.toList=(s.data.toList.drop a).take (b-a):=by
 rw[ByteArray.data_extract,Array.toList_extract]
theorem ZU {a b:ByteArray}(h:a.data.toList=b.data.toList):a=b:=by
 cases a;cases b
 simp only at h
 rw[Array.toList_inj.1 h]
theorem walk_rows (s:ByteArray):∀(f k:Nat),k≤s.size→s.size<k+f→
 (∀ls,yR f (s.data.toList.drop k)=some ls→walk s f k=jE k ls∧k+(zQ ls).length=s.size)∧
 (yR f (s.data.toList.drop k)=none→∀p∈walk s f k,ends s p=false):=by
 intro f
 induction f with
 | zero=>intro k hk hf;omega
 | succ f ih=>
   intro k hk hf
   have hlen:(s.data.toList.drop k).length=s.size-k:=by simp
   by_cases hlt:k<s.size
   ·have hd:s.data.toList.drop k=s[k] :: s.data.toList.drop (k+1):=by
     rw[List.drop_eq_getElem_cons (by simpa using hlt)];rfl
    have hsz:qJ s k=s[k].toNat:=zu hlt
    rw[hd,yR,walk,if_pos hlt,hsz]
    have hl2:(s.data.toList.drop (k+1)).length=s.size-(k+1):=by simp
    by_cases hz:s[k].toNat=0
    ·rw[if_pos hz]
     have hnot:¬(63<s[k].toNat∨s.size<k+1+s[k].toNat):=by omega
     rw[if_neg hnot,if_pos hz,hz]
     have hex:s.extract (k+1) (k+1+0)=ByteArray.empty:=ZU (by rw[zP];simp)
     rw[hex]
     refine⟨fun ls h=>?_,fun h p hp=>?_⟩
     ·split at h
      ·rename_i hr
       cases h
       have h3:=congrArg List.length hr
       rw[hl2,List.length_nil]at h3
       refine⟨rfl,?_⟩
       show k+1=s.size
       omega
      ·cases h
     ·split at h
      ·cases h
      ·rename_i hr
       rw[List.mem_singleton]at hp
       subst hp
       have:s.size≠k+1:=fun e=>hr (List.eq_nil_of_length_eq_zero (by rw[hl2];omega))
       simp[ends]
       omega
    ·rw[if_neg hz]
     by_cases hb:63<s[k].toNat∨s.size<k+1+s[k].toNat
     ·have hb':63<s[k].toNat∨(s.data.toList.drop (k+1)).length<s[k].toNat:=by rw[hl2];omega
      rw[if_pos hb',if_pos hb]
      exact⟨(fun ls h=>by cases h),(fun _ p hp=>by simp at hp)⟩
     ·have hb':¬(63<s[k].toNat∨(s.data.toList.drop (k+1)).length<s[k].toNat):=by rw[hl2];omega
      rw[if_neg hb',if_neg hb,if_neg hz,List.drop_drop]
      obtain⟨i1,i2⟩:=ih (k+1+s[k].toNat) (by omega) (by omega)
      have hex:(s.extract (k+1) (k+1+s[k].toNat)).data.toList=(s.data.toList.drop (k+1)).take s[k].toNat:=by
       rw[zP];congr 1;omega
      have hsz2:(s.extract (k+1) (k+1+s[k].toNat)).size=s[k].toNat:=by
       show(s.extract (k+1) (k+1+s[k].toNat)).data.size=_
       rw[← Array.length_toList,hex,List.length_take,hl2];omega
      refine⟨fun ls h=>?_,fun h p hp=>?_⟩
      ·cases hs:yR f (s.data.toList.drop (k+1+s[k].toNat)) with
       | none=>rw[hs]at h;cases h
       | some l2=>
         rw[hs]at h
         simp only[Option.map_some,Option.some.injEq]at h
         subst h
         obtain⟨j1,j2⟩:=i1 l2 hs
         have htl:((s.data.toList.drop (k+1)).take s[k].toNat).length=s[k].toNat:=by rw[List.length_take,hl2];omega
         rw[j1,jE,htl]
         refine⟨?_,?_⟩
         ·congr 2
          exact ZU (by rw[hex])
         ·simp only[zQ,List.length_cons,List.length_append,htl]
          omega
      ·have hn:yR f (s.data.toList.drop (k+1+s[k].toNat))=none:=by
        cases hs:yR f (s.data.toList.drop (k+1+s[k].toNat)) with
        | none=>rfl
        | some l2=>rw[hs]at h;cases h
       rcases List.mem_cons.1 hp with rfl | hp
       ·simp[ends,hsz2]
        omega
       ·exact i2 hn p hp
   ·have hk2:k=s.size:=by omega
    have hd:s.data.toList.drop k= []:=List.drop_eq_nil_of_le (by simp;omega)
    rw[hd]
    refine⟨fun ls h=>by simp[yR]at h,fun _ p hp=>?_⟩
    rw[walk,if_neg hlt]at hp
    simp at hp
theorem marksAt_ends (s:ByteArray):∀(ls:List (List UInt8)) (k:Nat),k+(zQ ls).length=s.size→(jE k ls).any (ends s)=true:=by
 intro ls
 induction ls with
 | nil=>intro k h;simp[zQ]at h;simp[jE,ends];omega
 | cons l ls ih=>
   intro k h
   rw[jE,List.any_cons,ih (k+1+l.length) (by simp[zQ]at h;omega),Bool.or_true]
theorem yX (s:ByteArray):qj s=(rows s).isSome:=by
 unfold qj rows marks
 by_cases hs:s.size≤255
 ·rw[if_pos hs,decide_eq_true hs,Bool.true_and]
  obtain⟨h1,h2⟩:=walk_rows s (s.size+1) 0 (Nat.zero_le _) (by omega)
  rw[List.drop_zero]at h1 h2
  cases h:yR (s.size+1) s.data.toList with
  | none=>
    rw[List.any_eq_false.2]
    ·rfl
    ·intro p hp
     rw[h2 h p hp];simp
  | some ls=>
    obtain⟨a,b⟩:=h1 ls h
    rw[a,marksAt_ends s ls 0 b]
    rfl
 ·rw[if_neg hs,decide_eq_false hs,Bool.false_and]
  rfl
theorem zS {s:ByteArray}{ls:List (List UInt8)}(h:rows s=some ls):s.size≤255∧QA ls∧s.data.toList=zQ ls∧marks s=jE 0 ls:=by
 unfold rows at h
 split at h
 ·rename_i hs
  obtain⟨a,b⟩:=KU _ _ _ h
  obtain⟨h1,_⟩:=walk_rows s (s.size+1) 0 (Nat.zero_le _) (by omega)
  rw[List.drop_zero]at h1
  exact⟨hs,a,b,(h1 ls h).1⟩
 ·cases h
theorem rows_put {ls:List (List UInt8)}(ho:QA ls)(hl:(zQ ls).length≤255):rows ⟨(zQ ls).toArray⟩=some ls:=by
 unfold rows
 rw[if_pos (by simpa[ByteArray.size] using hl)]
 exact Jz ls _ ho (by have:=jH ls;simp[ByteArray.size];omega)
theorem Xl (k:Nat)(ls:List (List UInt8)):(jE k ls).length=ls.length+1:=by
 induction ls generalizing k with
 | nil=>rfl
 | cons l ls ih=>rw[jE,List.length_cons,ih,List.length_cons]
theorem xE (s:ByteArray):qG s=match rows s with | some ls=>(ls.length:Int) | none=>-1:=by
 unfold qG
 rw[yX]
 cases h:rows s with
 | none=>rfl
 | some ls=>
   obtain⟨_,_,_,hm⟩:=zS h
   rw[hm,Xl]
   simp
theorem marksAt_get:∀(ls:List (List UInt8)) (k j:Nat),j≤ls.length→∃b,(jE k ls)[j]? =some (k+(zQ ls).length-(zQ (ls.drop j)).length,b):=by
 intro ls
 induction ls with
 | nil=>intro k j hj;have h0:j=0:=(by simpa using hj);subst h0;exact⟨ByteArray.empty,by simp[jE]⟩
 | cons l ls ih=>
   intro k j hj
   cases j with
   | zero=>exact⟨⟨l.toArray⟩,by simp[jE]⟩
   | succ j=>
     obtain⟨b,hb⟩:=ih (k+1+l.length) j (by simpa using hj)
     refine⟨b,?_⟩
     rw[jE,List.getElem?_cons_succ,hb,List.drop_succ_cons]
     congr 2
     simp[zQ]
     omega
theorem putL_drop:∀(ls:List (List UInt8)) (j:Nat),j≤ls.length→zQ (ls.drop j)=(zQ ls).drop ((zQ ls).length-(zQ (ls.drop j)).length)∧(zQ (ls.drop j)).length≤(zQ ls).length:=by
 intro ls
 induction ls with
 | nil=>intro j _;simp
 | cons l ls ih=>
   intro j hj
   cases j with
   | zero=>simp
   | succ j=>
     obtain⟨a,b⟩:=ih j (by simpa using hj)
     rw[List.drop_succ_cons]
     refine⟨?_,by simp[zQ];omega⟩
     have:(zQ (l :: ls)).length-(zQ (ls.drop j)).length=(1+l.length)+((zQ ls).length-(zQ (ls.drop j)).length):=by simp[zQ];omega
     rw[this,← List.drop_drop,show(zQ (l :: ls)).drop (1+l.length)=zQ ls by
      rw[zQ,Nat.add_comm,List.drop_succ_cons,List.drop_left],← a]
theorem Jy (s:ByteArray)(k:Int):zG s k=match rows s with
 | some ls=>if 0≤k∧k≤ls.length then⟨(zQ (ls.drop (ls.length-k.toNat))).toArray⟩ else ByteArray.empty
 | none=>ByteArray.empty:=by
 unfold zG
 rw[xE]
 cases h:rows s with
 | none=>simp only;rw[if_neg (by omega)]
 | some ls=>
   obtain⟨_,_,hp,hm⟩:=zS h
   simp only
   split
   ·rename_i hk
    obtain⟨b,hb⟩:=marksAt_get ls 0 ((ls.length:Int)-k).toNat (by omega)
    rw[hm,hb]
    apply ZU
    simp only[Option.getD_some,Nat.zero_add]
    rw[zP,List.take_of_length_le (by simp),hp]
    have e:((ls.length:Int)-k).toNat=ls.length-k.toNat:=by omega
    rw[e]
    exact(putL_drop ls _ (by omega)).1.symm
   ·rfl
end Go.Proofs.YtpcmilhjpmlbpaaGreatDoor.nm
namespace Go.Proofs.YtpcmilhjpmlbpaaGreatDoor
open Go.RowKit Go.Shelf
attribute [local go_sem] Oper.semAt_some
theorem Y2 (F:Fence)(n:Nat)(h5:F.fn 84)(hro:F.round=none)(s:ByteArray)(w:World):
 CallsIn F n Tryz.prog 84 #[.string s] w fun e w'=>e= .returned (.func (.func 135) #[] #[.pointer (some ⟨w.heap.size,0,none⟩)])∧w'=w.alloc (.cells #[.string s] 9):=by
 refine callsIn_of_wp Tryz.func84 rfl h5 ?_ hro
 simp only[Tryz.ntmps84,List.size_toArray,List.length_cons,List.length_nil,Nat.reduceAdd,Nat.reduceSub,Array.replicate_succ,Array.replicate_zero,List.push_toArray,List.append_toArray,List.nil_append,List.cons_append]
 gi_wp2
 go_ret
 exact⟨rfl,rfl⟩
theorem zq (W:World)(v:Value)(t:TypeId):(W.alloc (.cells #[v] t)).cell? ⟨W.heap.size,0,none⟩=some v∧(W.alloc (.cells #[v] t)).frozen? ⟨W.heap.size,0,none⟩=false:=
 ⟨by rw[qg (qB rfl)];rfl,qD (qB rfl) _⟩
theorem qp {W:World}{a:Addr}{v:Value}(o:Obj)(h:W.cell? a=some v):(W.alloc o).cell? a=some v:=cell_kept h (World.grownBy_alloc W o none) (fun _ e=>by cases e)
theorem jJ {W:World}{a:Addr}{v:Value}(o:Obj)(h:W.cell? a=some v)(hf:W.frozen? a=false):(W.alloc o).frozen? a=false:=(frozen_kept h (World.grownBy_alloc W o none) (fun _ e=>by cases e)).trans hf
def qY (b:Nat)(W W':World):Prop:=W'.heap[b]? =W.heap[b]?
theorem qY.refl (b:Nat)(W:World):qY b W W:=rfl
theorem qY.cell {b:Nat}{W W':World}(h:qY b W W')(i:Nat):W'.cell? ⟨b,i,none⟩=W.cell? ⟨b,i,none⟩:=World.cell?_of_block (w:=W) (a:=⟨b,i,none⟩) h
theorem qY.setCell {b:Nat}{W W':World}(h:qY b W W'){a:Addr}(hne:b≠a.block)(u:Value):qY b W (W'.setCell a u):=(Below.heap_setCell _ _ _ _ hne).trans h
theorem qY.alloc {b:Nat}{W W':World}(h:qY b W W')(hb:b<W'.heap.size)(o:Obj):qY b W (W'.alloc o):=(Below.heap_alloc _ _ _ hb).trans h
theorem qY.below {b B:Nat}{W W':World}(h:Below B W W')(hb:b<B):qY b W W':=h.block b hb
theorem kM {b:Nat}:∀{A B C:World},qY b A B→qY b B C→qY b A C:=fun h1 h2=>h2.trans h1
theorem kP {b B:Nat}(hb:b<B):∀(W:World) (l:Nat) (o o':Obj),B≤l→W.heap[l]? =some o→o.isCells=false→o.isWalk=false→qY b W (W.putObj l o'):=
 fun W l o o' hl _ _ _=>by unfold qY;exact World.putObj_heap_other (by omega)
abbrev markV (p:Nat×ByteArray):Array Value:=#[.int .i64 (p.1:Int),.string p.2]
theorem Xp (F:Fence)(n:Nat)(h7:F.fn 135)(hro:F.round=none)(hn:1≤n)(l Bs:Nat)(s:ByteArray)(hs:s.size≤140737488355328)(J Jx:List (Nat×ByteArray)→World→Prop)
 (hY:∀pre x W,x∈nm.marks s→J pre W→pre.length<(nm.marks s).length→YieldAt F (n-1) Tryz.prog l #[.int .i64 (x.1:Int),.string x.2] W fun e W'=>
  (e= .returned (.bool true)∧J (pre ++ [x]) W'∧qY Bs W W')∨(e= .returned (.bool false)∧Jx (pre ++ [x]) W'))
 (W:World) (hBs:W.cell? ⟨Bs,0,none⟩=some (.string s)) (h0:J [] W):
 CallsIn F n Tryz.prog 135 #[.func (.yield l) #[] #[],.pointer (some ⟨Bs,0,none⟩)] W fun e W'=>(∃v,e= .returned v)∧
  ((∃ys,ys=nm.marks s∧J ys W')∨(∃pre,pre <+:nm.marks s∧Jx pre W')):=by
 refine callsIn_of_wp Tryz.func135 rfl h7 ?_ hro
 simp only[Tryz.ntmps135,List.size_toArray,List.length_cons,List.length_nil,Nat.reduceAdd,Nat.reduceSub,Array.replicate_succ,Array.replicate_zero,List.push_toArray,List.append_toArray,List.nil_append,List.cons_append]
 gi_wp2
 gi_loopw [3,4] (fun i _ wr=>∃(k f:Nat) (pre:List (Nat×ByteArray)),k≤s.size∧s.size<k+f∧i= .int .i64 k∧nm.marks s=pre ++ nm.walk s f k∧J pre wr∧wr.cell? ⟨Bs,0,none⟩=some (.string s))
  (fun i _ _=>s.size-(intOf i).toNat)
 case atStart=>exact⟨0,s.size+1,[],Nat.zero_le _,by omega,rfl,rfl,h0,hBs⟩
 case round=>
  obtain⟨k,f,pre,hk,hf,rfl,hm,hJ,hbx⟩:=hrel
  have HM:=Lib.hid hm;have HF:=Lib.hid hf
  clear hm hBs hf
  by_cases hlt:k<s.size
  ·have hsz:=nm.zu hlt
   have Vg:(s[k].toNat:Int)<256:=by have:=UInt8.toNat_lt s[k];omega
   by_cases h63:63<nm.qJ s k
   ·have hend:nm.marks s=pre:=by rw[HM.out,nm.KR (.inr (.inl h63)),List.append_nil]
    have HE:=Lib.hid hend
    have q1:63<(s[k].toNat:Int):=by omega
    have HSZ:=Lib.hid hsz
    clear hend h63 hsz
    gi_wp2
    refine⟨fun _ h=>(by cases h),?_⟩
    gi_wp2
    refine bodyPost_ret (results_none rfl _ _ _) rfl ?_
    exact⟨⟨_,rfl⟩,.inl ⟨_,rfl,by rw[HE.out];exact hJ⟩⟩
   ·by_cases hlong:s.size<k+1+nm.qJ s k
    ·have hend:nm.marks s=pre:=by rw[HM.out,nm.KR (.inr (.inr hlong)),List.append_nil]
     have HE:=Lib.hid hend
     have q1:(s[k].toNat:Int)≤63:=by omega
     have q2:(s.size:Int)<k+1+s[k].toNat:=by omega
     have HSZ:=Lib.hid hsz
     clear hend h63 hsz hlong
     gi_wp2
     refine⟨fun _ h=>(by cases h),?_⟩
     gi_wp2
     refine bodyPost_ret (results_none rfl _ _ _) rfl ?_
     exact⟨⟨_,rfl⟩,.inl ⟨_,rfl,by rw[HE.out];exact hJ⟩⟩
    ·obtain⟨f',rfl⟩:∃f',f=f'+1:=⟨f-1,by have:=HF.out;omega⟩
     have hw:=nm.walk_at (f:=f') hlt (by omega)
     have hm:=HM.out
     rw[hw]at hm
     obtain⟨fn,tmps,assign,body,hy,hR⟩:=hY pre (k,s.extract (k+1) (k+1+nm.qJ s k)) wr (by rw[hm];simp) hJ (by rw[hm];simp)
     have q1:(s[k].toNat:Int)≤63:=by omega
     have q2:(k:Int)+1+s[k].toNat≤s.size:=by omega
     dsimp only at hy
     rw[hsz]at hy hR hm
     have HMM:=Lib.hid hm
     have HSZ:=Lib.hid hsz
     clear hm hw hsz hlong h63
     by_cases hz:s[k].toNat=0
     ·have b0:((s[k].toNat:Int) == 0)=true:=by rw[beq_iff_eq];omega
      have hm:=HMM.out
      rw[if_pos hz]at hm
      have HM3:=Lib.hid hm
      clear hm hz
      gi_wp2
      refine hR.mono ?_
      rintro e W3 (⟨rfl,hJ3,hk3⟩|⟨rfl,hJx3⟩)
      ·gi_wp2
       refine bodyPost_ret (results_none rfl _ _ _) rfl ?_
       exact⟨⟨_,rfl⟩,.inl ⟨_,rfl,by rw[HM3.out];exact hJ3⟩⟩
      ·gi_wp2
       refine bodyPost_ret (results_none rfl _ _ _) rfl ?_
       exact⟨⟨_,rfl⟩,.inr ⟨_,by rw[HM3.out];exact List.prefix_refl _,hJx3⟩⟩
     ·have b0:((s[k].toNat:Int) == 0)=false:=by rw[beq_eq_false_iff_ne];omega
      have hm:=HMM.out
      rw[if_neg hz]at hm
      have HM3:=Lib.hid hm
      have hpos:1≤(s[k].toNat:Int):=by omega
      clear hm hz
      gi_wp2
      refine hR.mono ?_
      rintro e W3 (⟨rfl,hJ3,hk3⟩|⟨rfl,hJx3⟩)
      ·have hB3:=(hk3.cell 0).trans hbx
       have HB3:=Lib.hid hB3
       clear hbx
       gi_wp2
       go_roundw
       case rel=>exact⟨k+1+s[k].toNat,f',_,by omega,by have:=HF.out;omega,by go_num,by rw[HM3.out];simp,hJ3,HB3.out⟩
       case measure=>simp[intOf];omega
      ·gi_wp2
       refine bodyPost_ret (results_none rfl _ _ _) rfl ?_
       exact⟨⟨_,rfl⟩,.inr ⟨_,by rw[HM3.out];exact⟨nm.walk s f' (k+1+s[k].toNat),by simp⟩,hJx3⟩⟩
  ·have hend:nm.marks s=pre:=by rw[HM.out,nm.KR (.inl (by omega)),List.append_nil]
   have HE:=Lib.hid hend
   clear hend
   gi_wp2
   go_end0
   exact⟨⟨_,rfl⟩,.inl ⟨_,rfl,by rw[HE.out];exact hJ⟩⟩
theorem Kv (F:Fence)(n:Nat)(h7:F.fn 135)(hro:F.round=none)(hn:1≤n)(Bs:Nat)(s:ByteArray)(hs:s.size≤140737488355328)(w:World)(hBs:Bs<w.heap.size)
 (hc:w.cell? ⟨Bs,0,none⟩=some (.string s)):
 SeqStopsK F n Tryz.prog 135 #[.pointer (some ⟨Bs,0,none⟩)] markV (qY Bs) (fun ys=>ys=nm.marks s) (fun pre=>pre <+:nm.marks s) (nm.marks s).length w:=fun l J Jx W hW _ _ hY h0=>
 Xp F n h7 hro hn l Bs s hs J Jx (fun pre x W _=>hY pre x W) W ((hW.cell (p:=⟨Bs,0,none⟩) hBs).trans hc) h0
theorem Jl (F:Fence)(n:Nat)(h7:F.fn 135)(hro:F.round=none)(hn:1≤n)(Bs:Nat)(s:ByteArray)(hs:s.size≤140737488355328)(w:World)(hBs:Bs<w.heap.size)
 (hc:w.cell? ⟨Bs,0,none⟩=some (.string s)):
 SeqStopsK F n Tryz.prog 135 #[.pointer (some ⟨Bs,0,none⟩)] (fun x:{ p:Nat×ByteArray // p∈nm.marks s}=>#[.int .i64 (x.1.1:Int),.string x.1.2]) (qY Bs)
  (fun ys=>ys.map (·.1)=nm.marks s) (fun pre=>pre.map (·.1) <+:nm.marks s) (nm.marks s).length w:=fun l J Jx W hW _ _ hY h0=>by
 refine(Xp F n h7 hro hn l Bs s hs (fun pre W=>∃q:List { p:Nat×ByteArray // p∈nm.marks s},q.map (·.1)=pre∧J q W) (fun pre W=>∃q:List { p:Nat×ByteArray // p∈nm.marks s},q.map (·.1)=pre∧Jx q W) ?_ W ((hW.cell (p:=⟨Bs,0,none⟩) hBs).trans hc) ⟨[],rfl,h0⟩).mono ?_
 ·rintro pre x W hx ⟨q,rfl,hJ⟩ hlen
  refine(hY q ⟨x,hx⟩ W hJ (by simpa using hlen)).mono ?_
  rintro e W' (⟨he,hj,hk⟩|⟨he,hj⟩)
  ·exact .inl ⟨he,⟨q ++ [⟨x,hx⟩],by simp,hj⟩,hk⟩
  ·exact .inr ⟨he,⟨q ++ [⟨x,hx⟩],by simp,hj⟩⟩
 ·rintro e W' ⟨he,⟨ys,hys,q,hq,hj⟩|⟨pre,hpre,q,hq,hj⟩⟩
  ·exact⟨he,.inl ⟨q,hq.trans hys,hj⟩⟩
  ·exact⟨he,.inr ⟨q,by show q.map (·.1) <+:_;rw[hq];exact hpre,hj⟩⟩
end Go.Proofs.YtpcmilhjpmlbpaaGreatDoor
