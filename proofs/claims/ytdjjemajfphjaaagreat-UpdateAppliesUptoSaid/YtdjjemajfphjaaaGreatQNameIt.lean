import Derived.Test.YtdjjemajfphjaaaGreatChecked
import Derived.Test.YtdjjemajfphjaaaGreatQMem
import Derived.RangeFuncNested
import Derived.RangeFuncBound
import Derived.RangeFuncCalls
import Derived.RangeFuncLeaves
import Derived.RangeFuncBox
import Derived.Shelf.Abstract
import Derived.Shelf.RegionOpen
import Derived.OwnWalkIn
import Derived.TacticsInMore
import Derived.LoopNIn
import Derived.LoopIn
import Derived.Outline
import Derived.WalkSpells
set_option maxRecDepth 100000
set_option maxHeartbeats 2000000
namespace Go.Proofs.YtdjjemajfphjaaaGreat.nm
def qN (s:ByteArray)(k:Nat):Nat:=(s.data.toList[k]?.getD 0).toNat
def walk (s:ByteArray):Nat→Nat→List (Nat×ByteArray)
 | 0,_=>[]
 | f+1,k=>
   if k<s.size then
    if 63<qN s k∨s.size<k+1+qN s k then []
    else(k,s.extract (k+1) (k+1+qN s k)) :: (if qN s k=0 then [] else walk s f (k+1+qN s k))
   else []
def marks (s:ByteArray):List (Nat×ByteArray):=walk s (s.size+1) 0
def ends (s:ByteArray)(p:Nat×ByteArray):Bool:=p.2.size == 0 && p.1+1 == s.size
def ql (s:ByteArray):Bool:=decide (s.size≤255) && (marks s).any (ends s)
theorem walk_at {s:ByteArray}{f k:Nat}(hk:k<s.size)(h:¬(63<qN s k∨s.size<k+1+qN s k)):
 walk s (f+1) k=(k,s.extract (k+1) (k+1+qN s k)) :: (if qN s k=0 then [] else walk s f (k+1+qN s k)):=by
 rw[walk,if_pos hk,if_neg h]
theorem UB {s:ByteArray}{f k:Nat}(h:s.size≤k∨63<qN s k∨s.size<k+1+qN s k):walk s f k= []:=by
 cases f with
 | zero=>rfl
 | succ f=>
   rw[walk]
   split
   ·split
    ·rfl
    ·rename_i h1 h2
     exact absurd (h.resolve_left (by omega)) h2
   ·rfl
theorem zF {s:ByteArray}{k:Nat}(h:k<s.size):qN s k=s[k].toNat:=by
 unfold qN
 rw[List.getElem?_eq_getElem (by simpa using h)];rfl
theorem walk_length (s:ByteArray):∀(f k:Nat),k≤s.size→(walk s f k).length≤s.size-k:=by
 intro f
 induction f with
 | zero=>intro k _;simp[walk]
 | succ f ih=>
   intro k hk
   rw[walk]
   split
   ·split
    ·simp
    ·rename_i h1 h2
     rw[List.length_cons]
     split
     ·simp;omega
     ·have:=ih (k+1+qN s k) (by omega)
      omega
   ·simp
theorem vR (s:ByteArray):(marks s).length≤s.size:=by
 have:=walk_length s (s.size+1) 0 (Nat.zero_le _)
 unfold marks
 omega
def qJ (s:ByteArray):Int:=if ql s then((marks s).length:Int)-1 else -1
def zL (s:ByteArray)(k:Int):ByteArray:=
 if 0≤k∧k≤qJ s then s.extract (((marks s)[(qJ s-k).toNat]?).getD (0,ByteArray.empty)).1 s.size else ByteArray.empty
theorem mark_le (s:ByteArray):∀(f k:Nat) (p:Nat×ByteArray),p∈walk s f k→p.1<s.size:=by
 intro f
 induction f with
 | zero=>intro k p h;simp[walk]at h
 | succ f ih=>
   intro k p h
   rw[walk]at h
   split at h
   ·split at h
    ·simp at h
    ·rcases List.mem_cons.1 h with rfl | h
     ·assumption
     ·split at h
      ·simp at h
      ·exact ih _ p h
   ·simp at h
theorem marks_lt {s:ByteArray}{p:Nat×ByteArray}(h:p∈marks s):p.1<s.size:=mark_le s _ _ p h
end Go.Proofs.YtdjjemajfphjaaaGreat.nm
namespace Go.Proofs.YtdjjemajfphjaaaGreat.dt
open nm
def xA (n:Int)(d:ByteArray):Int:=if(d.size:Int)<n then -1 else n
def yO (d:ByteArray):Int:=if d.size=0 then -1 else if d.size≤qN d 0 then -1 else 1+(qN d 0:Int)
def jY (d:ByteArray):Nat→Nat→Int
 | 0,_=>-1
 | f+1,k=>if k<d.size then(if yO (d.extract k d.size)<0 then -1 else jY d f (k+(yO (d.extract k d.size)).toNat)) else if k=0 then -1 else(k:Int)
def QE (d:ByteArray):Int:=jY d (d.size+1) 0
def xS (d:ByteArray):Int:=if d.size=0 then -1 else(d.size:Int)
def ZJ (d:ByteArray):Int:=if d.size<2 then -1 else if qN d 0=0∧qN d 1=0 then -1 else 2
def ZN (d:ByteArray):Int:=if d.size=0 then -1 else if qN d 0=0 then -1 else yO d
def Zl (d:ByteArray):Nat→Nat→Nat
 | 0,k=>k
 | f+1,k=>if k<d.size∧0<qN d k then Zl d f (k+1+qN d k) else k
def xO (d:ByteArray):Nat:=Zl d (d.size+1) 0
def Qp (d:ByteArray):Int:=if d.size≤xO d then -1 else if ql (d.extract 0 (xO d+1))=true then(xO d:Int)+1 else -1
theorem size_extract (d:ByteArray){k:Nat}(_h:k≤d.size):(d.extract k d.size).size=d.size-k:=by
 rw[ByteArray.size_extract];omega
theorem Q5 (d:ByteArray):yO d= -1∨(1≤yO d∧yO d≤d.size∧yO d≤256):=by
 unfold yO
 split
 ·exact .inl rfl
 ·split
  ·exact .inl rfl
  ·have:qN d 0<256:=UInt8.toNat_lt _
   omega
theorem Y7 {d:ByteArray}{f k:Nat}(h:¬(k<d.size∧0<qN d k)):Zl d f k=k:=by
 cases f with
 | zero=>rfl
 | succ f=>rw[Zl,if_neg h]
theorem VB {d:ByteArray}{f k:Nat}(h:k<d.size)(h2:0<qN d k):Zl d (f+1) k=Zl d f (k+1+qN d k):=by
 rw[Zl,if_pos ⟨h,h2⟩]
theorem Kv {d:ByteArray}{f k:Nat}(h:d.size≤k):jY d (f+1) k=if k=0 then -1 else(k:Int):=by
 rw[jY,if_neg (by omega)]
theorem Vo {d:ByteArray}{f k:Nat}(h:k<d.size)(h2:yO (d.extract k d.size)<0):jY d (f+1) k= -1:=by
 rw[jY,if_pos h,if_pos h2]
theorem Kw {d:ByteArray}{f k:Nat}(h:k<d.size)(h2:¬yO (d.extract k d.size)<0):jY d (f+1) k=jY d f (k+(yO (d.extract k d.size)).toNat):=by
 rw[jY,if_pos h,if_neg h2]
def bitB (r:ByteArray)(k:Nat):Bool:=decide (qN r (2+k / 8) / 2 ^ (7-k % 8) % 2=1)
def yE (r:ByteArray)(k:Nat):List Int:=((List.range k).filter (bitB r)).map (fun j=>((qN r 0*256+j:Nat):Int))
def um (r:ByteArray)(last:Int):Prop:=
 r.size<3∨(qN r 0:Int)≤last∨qN r 1<1∨32<qN r 1∨r.size<2+qN r 1∨qN r (1+qN r 1)=0
instance (r:ByteArray)(last:Int):Decidable (um r last):=by unfold um;infer_instance
def yV:Nat→ByteArray→Int→List Int→Option (List Int)
 | 0,_,_,_=>none
 | f+1,r,last,acc=>if r.size=0 then some acc else if um r last then none
    else yV f (r.extract (2+qN r 1) r.size) (qN r 0) (acc ++ yE r (8*qN r 1))
def yQ (d:ByteArray):Option (List Int):=
 match yV (d.size+1) d (-1) [] with
 | some l=>if l.head? =some 0 then none else some l
 | none=>none
def QJ (d:ByteArray):Int:=if(yQ d).isSome=true then(d.size:Int) else -1
theorem VI (r:ByteArray)(k:Nat):yE r (k+1)=yE r k ++ (if bitB r k=true then [((qN r 0*256+k:Nat):Int)] else []):=by
 unfold yE
 rw[List.range_succ,List.filter_append,List.map_append]
 congr 1
 by_cases h:bitB r k=true <;> simp[h]
theorem blockL_len (r:ByteArray)(k:Nat):(yE r k).length≤k:=by
 unfold yE
 rw[List.length_map]
 exact Nat.le_trans (List.length_filter_le _ _) (by simp)
theorem Q4 {f:Nat}{r:ByteArray}{last:Int}{acc:List Int}(h:r.size=0):yV (f+1) r last acc=some acc:=by rw[yV,if_pos h]
theorem xR {f:Nat}{r:ByteArray}{last:Int}{acc:List Int}(h:r.size≠0)(h2:um r last):yV (f+1) r last acc=none:=by rw[yV,if_neg h,if_pos h2]
theorem Qr {f:Nat}{r:ByteArray}{last:Int}{acc:List Int}(h:r.size≠0)(h2:¬um r last):yV (f+1) r last acc=yV f (r.extract (2+qN r 1) r.size) (qN r 0) (acc ++ yE r (8*qN r 1)):=by rw[yV,if_neg h,if_neg h2]
end Go.Proofs.YtdjjemajfphjaaaGreat.dt
namespace Go.Proofs.YtdjjemajfphjaaaGreat.nm
def ji:Nat→List UInt8→Option (List (List UInt8))
 | 0,_=>none
 | _+1,[]=>none
 | f+1,c :: r=>
   if c.toNat=0 then(if r= [] then some [] else none)
   else if 63<c.toNat∨r.length<c.toNat then none
   else(ji f (r.drop c.toNat)).map (r.take c.toNat :: ·)
def rows (s:ByteArray):Option (List (List UInt8)):=if s.size≤255 then ji (s.size+1) s.data.toList else none
def zW:List (List UInt8)→List UInt8
 | []=>[0]
 | l :: ls=>UInt8.ofNat l.length :: (l ++ zW ls)
def QS (ls:List (List UInt8)):Prop:=∀l∈ls,0<l.length∧l.length≤63
theorem UK:∀(f:Nat) (r:List UInt8) (ls:List (List UInt8)),ji f r=some ls→QS ls∧r=zW ls:=by
 intro f
 induction f with
 | zero=>intro r ls h;simp[ji]at h
 | succ f ih=>
   intro r ls h
   cases r with
   | nil=>simp[ji]at h
   | cons c r=>
     rw[ji]at h
     split at h
     ·rename_i hc
      split at h
      ·rename_i hr
       cases h
       have h0:c=0:=UInt8.toNat_inj.1 hc
       exact⟨fun l hl=>by simp at hl,by rw[hr,h0];rfl⟩
      ·cases h
     ·split at h
      ·cases h
      ·rename_i hc hb
       cases hs:ji f (r.drop c.toNat) with
       | none=>rw[hs]at h;cases h
       | some l2=>
         rw[hs]at h
         simp only[Option.map_some,Option.some.injEq]at h
         obtain⟨h1,h2⟩:=ih _ _ hs
         have hlen:(r.take c.toNat).length=c.toNat:=by rw[List.length_take];omega
         subst h
         refine⟨fun l hl=>?_,?_⟩
         ·rcases List.mem_cons.1 hl with rfl | hl
          ·omega
          ·exact h1 l hl
         ·rw[zW,hlen,← h2,List.take_append_drop]
          congr 1
          simp
theorem JX:∀(ls:List (List UInt8)) (f:Nat),QS ls→ls.length<f→ji f (zW ls)=some ls:=by
 intro ls
 induction ls with
 | nil=>
   intro f _ hf
   obtain⟨f,rfl⟩:∃g,f=g+1:=⟨f-1,by omega⟩
   rfl
 | cons l ls ih=>
   intro f ho hf
   obtain⟨f,rfl⟩:∃g,f=g+1:=⟨f-1,by simp at hf;omega⟩
   obtain⟨h0,h1⟩:=ho l (by simp)
   have hn:(UInt8.ofNat l.length).toNat=l.length:=by rw[UInt8.toNat_ofNat'];omega
   rw[zW,ji,hn,if_neg (by omega),if_neg (by simp;omega)]
   rw[List.drop_left,List.take_left,ih f (fun l hl=>ho l (by simp[hl])) (by simpa using hf)]
   rfl
theorem ku (ls:List (List UInt8)):ls.length<(zW ls).length:=by
 induction ls with
 | nil=>simp[zW]
 | cons l ls ih=>simp[zW];omega
theorem splitL_fuel {f g:Nat}{r:List UInt8}(hf:r.length<f)(hg:r.length<g):ji f r=ji g r:=by
 cases h:ji f r with
 | some ls=>
   obtain⟨h1,h2⟩:=UK f r ls h
   rw[h2,JX ls g h1 (by rw[h2]at hg;have:=ku ls;omega)]
 | none=>
   cases h':ji g r with
   | none=>rfl
   | some ls=>
     obtain⟨h1,h2⟩:=UK g r ls h'
     rw[h2,JX ls f h1 (by rw[h2]at hf;have:=ku ls;omega)]at h
     cases h
def jZ:Nat→List (List UInt8)→List (Nat×ByteArray)
 | k,[]=>[(k,ByteArray.empty)]
 | k,l :: ls=>(k,⟨l.toArray⟩) :: jZ (k+1+l.length) ls
theorem zM (s:ByteArray)(a b:Nat):(s.extract a b).data.toList=(s.data.toList.drop a).take (b-a):=by
 rw[ByteArray.data_extract,Array.toList_extract]
theorem Yr {a b:ByteArray}(h:a.data.toList=b.data.toList):a=b:=by
 cases a;cases b
 simp only at h
 rw[Array.toList_inj.1 h]
theorem walk_rows (s:ByteArray):∀(f k:Nat),k≤s.size→s.size<k+f→
 (∀ls,ji f (s.data.toList.drop k)=some ls→walk s f k=jZ k ls∧k+(zW ls).length=s.size)∧
 (ji f (s.data.toList.drop k)=none→∀p∈walk s f k,ends s p=false):=by
 intro f
 induction f with
 | zero=>intro k hk hf;omega
 | succ f ih=>
   intro k hk hf
   have hlen:(s.data.toList.drop k).length=s.size-k:=by simp
   by_cases hlt:k<s.size
   ·have hd:s.data.toList.drop k=s[k] :: s.data.toList.drop (k+1):=by
     rw[List.drop_eq_getElem_cons (by simpa using hlt)];rfl
    have hsz:qN s k=s[k].toNat:=zF hlt
    rw[hd,ji,walk,if_pos hlt,hsz]
    have hl2:(s.data.toList.drop (k+1)).length=s.size-(k+1):=by simp
    by_cases hz:s[k].toNat=0
    ·rw[if_pos hz]
     have hnot:¬(63<s[k].toNat∨s.size<k+1+s[k].toNat):=by omega
     rw[if_neg hnot,if_pos hz,hz]
     have hex:s.extract (k+1) (k+1+0)=ByteArray.empty:=Yr (by rw[zM];simp)
     rw[hex]
     refine⟨fun ls h=>?_,fun h p hp=>?_⟩
     ·split at h
      ·rename_i hr
       cases h
       have h3:=congrArg List.length hr
       rw[hl2,List.length_nil]at h3
       refine⟨rfl,?_⟩
       show k+1=s.size
       omega
      ·cases h
     ·split at h
      ·cases h
      ·rename_i hr
       rw[List.mem_singleton]at hp
       subst hp
       have:s.size≠k+1:=fun e=>hr (List.eq_nil_of_length_eq_zero (by rw[hl2];omega))
       simp[ends]
       omega
    ·rw[if_neg hz]
     by_cases hb:63<s[k].toNat∨s.size<k+1+s[k].toNat
     ·have hb':63<s[k].toNat∨(s.data.toList.drop (k+1)).length<s[k].toNat:=by rw[hl2];omega
      rw[if_pos hb',if_pos hb]
      exact⟨(fun ls h=>by cases h),(fun _ p hp=>by simp at hp)⟩
     ·have hb':¬(63<s[k].toNat∨(s.data.toList.drop (k+1)).length<s[k].toNat):=by rw[hl2];omega
      rw[if_neg hb',if_neg hb,if_neg hz,List.drop_drop]
      obtain⟨i1,i2⟩:=ih (k+1+s[k].toNat) (by omega) (by omega)
      have hex:(s.extract (k+1) (k+1+s[k].toNat)).data.toList=(s.data.toList.drop (k+1)).take s[k].toNat:=by
       rw[zM];congr 1;omega
      have hsz2:(s.extract (k+1) (k+1+s[k].toNat)).size=s[k].toNat:=by
       show(s.extract (k+1) (k+1+s[k].toNat)).data.size=_
       rw[← Array.length_toList,hex,List.length_take,hl2];omega
      refine⟨fun ls h=>?_,fun h p hp=>?_⟩
      ·cases hs:ji f (s.data.toList.drop (k+1+s[k].toNat)) with
       | none=>rw[hs]at h;cases h
       | some l2=>
         rw[hs]at h
         simp only[Option.map_some,Option.some.injEq]at h
         subst h
         obtain⟨j1,j2⟩:=i1 l2 hs
         have htl:((s.data.toList.drop (k+1)).take s[k].toNat).length=s[k].toNat:=by rw[List.length_take,hl2];omega
         rw[j1,jZ,htl]
         refine⟨?_,?_⟩
         ·congr 2
          exact Yr (by rw[hex])
         ·simp only[zW,List.length_cons,List.length_append,htl]
          omega
      ·have hn:ji f (s.data.toList.drop (k+1+s[k].toNat))=none:=by
        cases hs:ji f (s.data.toList.drop (k+1+s[k].toNat)) with
        | none=>rfl
        | some l2=>rw[hs]at h;cases h
       rcases List.mem_cons.1 hp with rfl | hp
       ·simp[ends,hsz2]
        omega
       ·exact i2 hn p hp
   ·have hk2:k=s.size:=by omega
    have hd:s.data.toList.drop k= []:=List.drop_eq_nil_of_le (by simp;omega)
    rw[hd]
    refine⟨fun ls h=>by simp[ji]at h,fun _ p hp=>?_⟩
    rw[walk,if_neg hlt]at hp
    simp at hp
theorem marksAt_ends (s:ByteArray):∀(ls:List (List UInt8)) (k:Nat),k+(zW ls).length=s.size→(jZ k ls).any (ends s)=true:=by
 intro ls
 induction ls with
 | nil=>intro k h;simp[zW]at h;simp[jZ,ends];omega
 | cons l ls ih=>
   intro k h
   rw[jZ,List.any_cons,ih (k+1+l.length) (by simp[zW]at h;omega),Bool.or_true]
theorem jf (s:ByteArray):ql s=(rows s).isSome:=by
 unfold ql rows marks
 by_cases hs:s.size≤255
 ·rw[if_pos hs,decide_eq_true hs,Bool.true_and]
  obtain⟨h1,h2⟩:=walk_rows s (s.size+1) 0 (Nat.zero_le _) (by omega)
  rw[List.drop_zero]at h1 h2
  cases h:ji (s.size+1) s.data.toList with
  | none=>
    rw[List.any_eq_false.2]
    ·rfl
    ·intro p hp
     rw[h2 h p hp];simp
  | some ls=>
    obtain⟨a,b⟩:=h1 ls h
    rw[a,marksAt_ends s ls 0 b]
    rfl
 ·rw[if_neg hs,decide_eq_false hs,Bool.false_and]
  rfl
theorem zX {s:ByteArray}{ls:List (List UInt8)}(h:rows s=some ls):s.size≤255∧QS ls∧s.data.toList=zW ls∧marks s=jZ 0 ls:=by
 unfold rows at h
 split at h
 ·rename_i hs
  obtain⟨a,b⟩:=UK _ _ _ h
  obtain⟨h1,_⟩:=walk_rows s (s.size+1) 0 (Nat.zero_le _) (by omega)
  rw[List.drop_zero]at h1
  exact⟨hs,a,b,(h1 ls h).1⟩
 ·cases h
theorem rows_put {ls:List (List UInt8)}(ho:QS ls)(hl:(zW ls).length≤255):rows ⟨(zW ls).toArray⟩=some ls:=by
 unfold rows
 rw[if_pos (by simpa[ByteArray.size] using hl)]
 exact JX ls _ ho (by have:=ku ls;simp[ByteArray.size];omega)
theorem XO (k:Nat)(ls:List (List UInt8)):(jZ k ls).length=ls.length+1:=by
 induction ls generalizing k with
 | nil=>rfl
 | cons l ls ih=>rw[jZ,List.length_cons,ih,List.length_cons]
theorem Qb (s:ByteArray):qJ s=match rows s with | some ls=>(ls.length:Int) | none=>-1:=by
 unfold qJ
 rw[jf]
 cases h:rows s with
 | none=>rfl
 | some ls=>
   obtain⟨_,_,_,hm⟩:=zX h
   rw[hm,XO]
   simp
theorem marksAt_get:∀(ls:List (List UInt8)) (k j:Nat),j≤ls.length→∃b,(jZ k ls)[j]? =some (k+(zW ls).length-(zW (ls.drop j)).length,b):=by
 intro ls
 induction ls with
 | nil=>intro k j hj;have h0:j=0:=(by simpa using hj);subst h0;exact⟨ByteArray.empty,by simp[jZ]⟩
 | cons l ls ih=>
   intro k j hj
   cases j with
   | zero=>exact⟨⟨l.toArray⟩,by simp[jZ]⟩
   | succ j=>
     obtain⟨b,hb⟩:=ih (k+1+l.length) j (by simpa using hj)
     refine⟨b,?_⟩
     rw[jZ,List.getElem?_cons_succ,hb,List.drop_succ_cons]
     congr 2
     simp[zW]
     omega
theorem putL_drop:∀(ls:List (List UInt8)) (j:Nat),j≤ls.length→zW (ls.drop j)=(zW ls).drop ((zW ls).length-(zW (ls.drop j)).length)∧(zW (ls.drop j)).length≤(zW ls).length:=by
 intro ls
 induction ls with
 | nil=>intro j _;simp
 | cons l ls ih=>
   intro j hj
   cases j with
   | zero=>simp
   | succ j=>
     obtain⟨a,b⟩:=ih j (by simpa using hj)
     rw[List.drop_succ_cons]
     refine⟨?_,by simp[zW];omega⟩
     have:(zW (l :: ls)).length-(zW (ls.drop j)).length=(1+l.length)+((zW ls).length-(zW (ls.drop j)).length):=by simp[zW];omega
     rw[this,← List.drop_drop,show(zW (l :: ls)).drop (1+l.length)=zW ls by
      rw[zW,Nat.add_comm,List.drop_succ_cons,List.drop_left],← a]
theorem Z8 (s:ByteArray)(k:Int):zL s k=match rows s with
 | some ls=>if 0≤k∧k≤ls.length then⟨(zW (ls.drop (ls.length-k.toNat))).toArray⟩ else ByteArray.empty
 | none=>ByteArray.empty:=by
 unfold zL
 rw[Qb]
 cases h:rows s with
 | none=>simp only;rw[if_neg (by omega)]
 | some ls=>
   obtain⟨_,_,hp,hm⟩:=zX h
   simp only
   split
   ·rename_i hk
    obtain⟨b,hb⟩:=marksAt_get ls 0 ((ls.length:Int)-k).toNat (by omega)
    rw[hm,hb]
    apply Yr
    simp only[Option.getD_some,Nat.zero_add]
    rw[zM,List.take_of_length_le (by simp),hp]
    have e:((ls.length:Int)-k).toNat=ls.length-k.toNat:=by omega
    rw[e]
    exact(putL_drop ls _ (by omega)).1.symm
   ·rfl
end Go.Proofs.YtdjjemajfphjaaaGreat.nm
namespace Go.Proofs.YtdjjemajfphjaaaGreat
open Go.RowKit Go.Shelf
attribute [local go_sem] Oper.semAt_some
theorem Jy (F:Fence)(n:Nat)(h5:F.fn 103)(hro:F.round=none)(s:ByteArray)(w:World):
 CallsIn F n Tryz.prog 103 #[.string s] w fun e w'=>e= .returned (.func (.func 145) #[] #[.pointer (some ⟨w.heap.size,0,none⟩)])∧w'=w.alloc (.cells #[.string s] 9):=by
 refine callsIn_of_wp Tryz.func103 rfl h5 ?_ hro
 simp only[Tryz.ntmps103,List.size_toArray,List.length_cons,List.length_nil,Nat.reduceAdd,Nat.reduceSub,Array.replicate_succ,Array.replicate_zero,List.push_toArray,List.append_toArray,List.nil_append,List.cons_append]
 gi_wp2
 go_ret
 exact⟨rfl,rfl⟩
theorem yG (W:World)(v:Value)(t:TypeId):(W.alloc (.cells #[v] t)).cell? ⟨W.heap.size,0,none⟩=some v∧(W.alloc (.cells #[v] t)).frozen? ⟨W.heap.size,0,none⟩=false:=
 ⟨by rw[qg (qo rfl)];rfl,qE (qo rfl) _⟩
theorem qx {W:World}{a:Addr}{v:Value}(o:Obj)(h:W.cell? a=some v):(W.alloc o).cell? a=some v:=cell_kept h (World.grownBy_alloc W o none) (fun _ e=>by cases e)
theorem kE {W:World}{a:Addr}{v:Value}(o:Obj)(h:W.cell? a=some v)(hf:W.frozen? a=false):(W.alloc o).frozen? a=false:=(frozen_kept h (World.grownBy_alloc W o none) (fun _ e=>by cases e)).trans hf
def zu (b:Nat)(W W':World):Prop:=W'.heap[b]? =W.heap[b]?
theorem zu.refl (b:Nat)(W:World):zu b W W:=rfl
theorem zu.cell {b:Nat}{W W':World}(h:zu b W W')(i:Nat):W'.cell? ⟨b,i,none⟩=W.cell? ⟨b,i,none⟩:=World.cell?_of_block (w:=W) (a:=⟨b,i,none⟩) h
theorem zu.setCell {b:Nat}{W W':World}(h:zu b W W'){a:Addr}(hne:b≠a.block)(u:Value):zu b W (W'.setCell a u):=(Below.heap_setCell _ _ _ _ hne).trans h
theorem zu.alloc {b:Nat}{W W':World}(h:zu b W W')(hb:b<W'.heap.size)(o:Obj):zu b W (W'.alloc o):=(Below.heap_alloc _ _ _ hb).trans h
theorem zu.below {b B:Nat}{W W':World}(h:Below B W W')(hb:b<B):zu b W W':=h.block b hb
theorem Yj {b:Nat}:∀{A B C:World},zu b A B→zu b B C→zu b A C:=fun h1 h2=>h2.trans h1
theorem Yk {b B:Nat}(hb:b<B):∀(W:World) (l:Nat) (o o':Obj),B≤l→W.heap[l]? =some o→o.isCells=false→o.isWalk=false→zu b W (W.putObj l o'):=
 fun W l o o' hl _ _ _=>by unfold zu;exact World.putObj_heap_other (by omega)
abbrev markV (p:Nat×ByteArray):Array Value:=#[.int .i64 (p.1:Int),.string p.2]
theorem XU (F:Fence)(n:Nat)(h7:F.fn 145)(hro:F.round=none)(hn:1≤n)(l Bs:Nat)(s:ByteArray)(hs:s.size≤140737488355328)(J Jx:List (Nat×ByteArray)→World→Prop)
 (hY:∀pre x W,x∈nm.marks s→J pre W→pre.length<(nm.marks s).length→YieldAt F (n-1) Tryz.prog l #[.int .i64 (x.1:Int),.string x.2] W fun e W'=>
  (e= .returned (.bool true)∧J (pre ++ [x]) W'∧zu Bs W W')∨(e= .returned (.bool false)∧Jx (pre ++ [x]) W'))
 (W:World) (hBs:W.cell? ⟨Bs,0,none⟩=some (.string s)) (h0:J [] W):
 CallsIn F n Tryz.prog 145 #[.func (.yield l) #[] #[],.pointer (some ⟨Bs,0,none⟩)] W fun e W'=>(∃v,e= .returned v)∧
  ((∃ys,ys=nm.marks s∧J ys W')∨(∃pre,pre <+:nm.marks s∧Jx pre W')):=by
 refine callsIn_of_wp Tryz.func145 rfl h7 ?_ hro
 simp only[Tryz.ntmps145,List.size_toArray,List.length_cons,List.length_nil,Nat.reduceAdd,Nat.reduceSub,Array.replicate_succ,Array.replicate_zero,List.push_toArray,List.append_toArray,List.nil_append,List.cons_append]
 gi_wp2
 gi_loopw [3,4] (fun i _ wr=>∃(k f:Nat) (pre:List (Nat×ByteArray)),k≤s.size∧s.size<k+f∧i= .int .i64 k∧nm.marks s=pre ++ nm.walk s f k∧J pre wr∧wr.cell? ⟨Bs,0,none⟩=some (.string s))
  (fun i _ _=>s.size-(intOf i).toNat)
 case atStart=>exact⟨0,s.size+1,[],Nat.zero_le _,by omega,rfl,rfl,h0,hBs⟩
 case round=>
  obtain⟨k,f,pre,hk,hf,rfl,hm,hJ,hbx⟩:=hrel
  have HM:=Lib.hid hm;have HF:=Lib.hid hf
  clear hm hBs hf
  by_cases hlt:k<s.size
  ·have hsz:=nm.zF hlt
   have VO:(s[k].toNat:Int)<256:=by have:=UInt8.toNat_lt s[k];omega
   by_cases h63:63<nm.qN s k
   ·have hend:nm.marks s=pre:=by rw[HM.out,nm.UB (.inr (.inl h63)),List.append_nil]
    have HE:=Lib.hid hend
    have q1:63<(s[k].toNat:Int):=by omega
    have HSZ:=Lib.hid hsz
    clear hend h63 hsz
    gi_wp2
    refine⟨fun _ h=>(by cases h),?_⟩
    gi_wp2
    refine bodyPost_ret (results_none rfl _ _ _) rfl ?_
    exact⟨⟨_,rfl⟩,.inl ⟨_,rfl,by rw[HE.out];exact hJ⟩⟩
   ·by_cases hlong:s.size<k+1+nm.qN s k
    ·have hend:nm.marks s=pre:=by rw[HM.out,nm.UB (.inr (.inr hlong)),List.append_nil]
     have HE:=Lib.hid hend
     have q1:(s[k].toNat:Int)≤63:=by omega
     have q2:(s.size:Int)<k+1+s[k].toNat:=by omega
     have HSZ:=Lib.hid hsz
     clear hend h63 hsz hlong
     gi_wp2
     refine⟨fun _ h=>(by cases h),?_⟩
     gi_wp2
     refine bodyPost_ret (results_none rfl _ _ _) rfl ?_
     exact⟨⟨_,rfl⟩,.inl ⟨_,rfl,by rw[HE.out];exact hJ⟩⟩
    ·obtain⟨f',rfl⟩:∃f',f=f'+1:=⟨f-1,by have:=HF.out;omega⟩
     have hw:=nm.walk_at (f:=f') hlt (by omega)
     have hm:=HM.out
     rw[hw]at hm
     obtain⟨fn,tmps,assign,body,hy,hR⟩:=hY pre (k,s.extract (k+1) (k+1+nm.qN s k)) wr (by rw[hm];simp) hJ (by rw[hm];simp)
     have q1:(s[k].toNat:Int)≤63:=by omega
     have q2:(k:Int)+1+s[k].toNat≤s.size:=by omega
     dsimp only at hy
     rw[hsz]at hy hR hm
     have HMM:=Lib.hid hm
     have HSZ:=Lib.hid hsz
     clear hm hw hsz hlong h63
     by_cases hz:s[k].toNat=0
     ·have b0:((s[k].toNat:Int) == 0)=true:=by rw[beq_iff_eq];omega
      have hm:=HMM.out
      rw[if_pos hz]at hm
      have HM3:=Lib.hid hm
      clear hm hz
      gi_wp2
      refine hR.mono ?_
      rintro e W3 (⟨rfl,hJ3,hk3⟩|⟨rfl,hJx3⟩)
      ·gi_wp2
       refine bodyPost_ret (results_none rfl _ _ _) rfl ?_
       exact⟨⟨_,rfl⟩,.inl ⟨_,rfl,by rw[HM3.out];exact hJ3⟩⟩
      ·gi_wp2
       refine bodyPost_ret (results_none rfl _ _ _) rfl ?_
       exact⟨⟨_,rfl⟩,.inr ⟨_,by rw[HM3.out];exact List.prefix_refl _,hJx3⟩⟩
     ·have b0:((s[k].toNat:Int) == 0)=false:=by rw[beq_eq_false_iff_ne];omega
      have hm:=HMM.out
      rw[if_neg hz]at hm
      have HM3:=Lib.hid hm
      have hpos:1≤(s[k].toNat:Int):=by omega
      clear hm hz
      gi_wp2
      refine hR.mono ?_
      rintro e W3 (⟨rfl,hJ3,hk3⟩|⟨rfl,hJx3⟩)
      ·have hB3:=(hk3.cell 0).trans hbx
       have HB3:=Lib.hid hB3
       clear hbx
       gi_wp2
       go_roundw
       case rel=>exact⟨k+1+s[k].toNat,f',_,by omega,by have:=HF.out;omega,by go_num,by rw[HM3.out];simp,hJ3,HB3.out⟩
       case measure=>simp[intOf];omega
      ·gi_wp2
       refine bodyPost_ret (results_none rfl _ _ _) rfl ?_
       exact⟨⟨_,rfl⟩,.inr ⟨_,by rw[HM3.out];exact⟨nm.walk s f' (k+1+s[k].toNat),by simp⟩,hJx3⟩⟩
  ·have hend:nm.marks s=pre:=by rw[HM.out,nm.UB (.inl (by omega)),List.append_nil]
   have HE:=Lib.hid hend
   clear hend
   gi_wp2
   go_end0
   exact⟨⟨_,rfl⟩,.inl ⟨_,rfl,by rw[HE.out];exact hJ⟩⟩
theorem KX (F:Fence)(n:Nat)(h7:F.fn 145)(hro:F.round=none)(hn:1≤n)(Bs:Nat)(s:ByteArray)(hs:s.size≤140737488355328)(w:World)(hBs:Bs<w.heap.size)
 (hc:w.cell? ⟨Bs,0,none⟩=some (.string s)):
 SeqStopsK F n Tryz.prog 145 #[.pointer (some ⟨Bs,0,none⟩)] markV (zu Bs) (fun ys=>ys=nm.marks s) (fun pre=>pre <+:nm.marks s) (nm.marks s).length w:=fun l J Jx W hW _ _ hY h0=>
 XU F n h7 hro hn l Bs s hs J Jx (fun pre x W _=>hY pre x W) W ((hW.cell (p:=⟨Bs,0,none⟩) hBs).trans hc) h0
theorem JL (F:Fence)(n:Nat)(h7:F.fn 145)(hro:F.round=none)(hn:1≤n)(Bs:Nat)(s:ByteArray)(hs:s.size≤140737488355328)(w:World)(hBs:Bs<w.heap.size)
 (hc:w.cell? ⟨Bs,0,none⟩=some (.string s)):
 SeqStopsK F n Tryz.prog 145 #[.pointer (some ⟨Bs,0,none⟩)] (fun x:{ p:Nat×ByteArray // p∈nm.marks s}=>#[.int .i64 (x.1.1:Int),.string x.1.2]) (zu Bs)
  (fun ys=>ys.map (·.1)=nm.marks s) (fun pre=>pre.map (·.1) <+:nm.marks s) (nm.marks s).length w:=fun l J Jx W hW _ _ hY h0=>by
 refine(XU F n h7 hro hn l Bs s hs (fun pre W=>∃q:List { p:Nat×ByteArray // p∈nm.marks s},q.map (·.1)=pre∧J q W) (fun pre W=>∃q:List { p:Nat×ByteArray // p∈nm.marks s},q.map (·.1)=pre∧Jx q W) ?_ W ((hW.cell (p:=⟨Bs,0,none⟩) hBs).trans hc) ⟨[],rfl,h0⟩).mono ?_
 ·rintro pre x W hx ⟨q,rfl,hJ⟩ hlen
  refine(hY q ⟨x,hx⟩ W hJ (by simpa using hlen)).mono ?_
  rintro e W' (⟨he,hj,hk⟩|⟨he,hj⟩)
  ·exact .inl ⟨he,⟨q ++ [⟨x,hx⟩],by simp,hj⟩,hk⟩
  ·exact .inr ⟨he,⟨q ++ [⟨x,hx⟩],by simp,hj⟩⟩
 ·rintro e W' ⟨he,⟨ys,hys,q,hq,hj⟩|⟨pre,hpre,q,hq,hj⟩⟩
  ·exact⟨he,.inl ⟨q,hq.trans hys,hj⟩⟩
  ·exact⟨he,.inr ⟨q,by show q.map (·.1) <+:_;rw[hq];exact hpre,hj⟩⟩
end Go.Proofs.YtdjjemajfphjaaaGreat
