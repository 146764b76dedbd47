import Derived.Test.YtpcmilhjpmlbpaaGreatDoorChecked
import Derived.WalkKit
import Derived.Maps.AppendAt
import Derived.Deep.AppendLies
import Derived.Deep.Draws
import Derived.StringKeys
import Derived.WideKeyMaps
import Derived.MapKept
import Derived.ArgAppend
import Derived.Lib.Hide
import Derived.RangeFuncNested
import Derived.RangeFuncBound
import Derived.RangeFuncCalls
import Derived.RangeFuncLeaves
import Derived.RangeFuncBox
import Derived.Shelf.Abstract
import Derived.Shelf.RegionOpen
import Derived.OwnWalkIn
import Derived.TacticsInMore
import Derived.LoopNIn
import Derived.LoopIn
import Derived.Outline
import Derived.WalkSpells
set_option maxRecDepth 100000
set_option maxHeartbeats 2000000
namespace Go.Proofs.YtpcmilhjpmlbpaaGreatDoor
open Go.RowKit
theorem qe{p:Prop}(h:p):Go.RowKit.Hid p:=h
def YS (w:World)(base:Nat)(e:TypeId)(size:Nat)(v:Value)(n:Nat)(xs:List Value):Prop:=
 xs.length=n*size∧
 ((v= .slice none 0 0∧n=0)∨
  ∃g off cap cur,v= .slice (some ⟨g,off,none⟩) n cap∧base≤g∧w.heap[g]? =some (.cells cur e (0,0))∧n≤cap∧cap≤maxLen∧off+cap*size≤cur.size∧(cur.toList.drop off).take (n*size)=xs)
structure Fr (B:Nat)(T:Obj→Prop)(w w':World):Prop where
 below:Below B w w'
 kept:∀(k:Nat) (o:Obj),w.heap[k]? =some o→¬T o→w'.heap[k]? =some o
section
variable {B:Nat}{T:Obj→Prop}{w w' w'':World}
theorem Fr.trans (h:Fr B T w w')(h':Fr B T w' w''):Fr B T w w'':=
 ⟨h.below.trans h'.below,fun k o hk ht=>h'.kept k o (h.kept k o hk ht) ht⟩
theorem Fr.block (h:Fr B T w w'){b:Nat}{o:Obj}(hb:w'.heap[b]? =some o)(ht:T o)(hB:B≤b)
 (hg:w'.grownBy w'' (some b)):Fr B T w w'':=
 h.trans ⟨(Below.refl _ _).grown hg (by have:=(Array.getElem?_eq_some_iff.1 hb).1;omega) (fun k hk=>by cases hk;exact hB),fun k o' hk hn=>by
  have hlt:k<w'.heap.size:=(Array.getElem?_eq_some_iff.1 hk).1;rw[hg.block k hlt (fun e=>by cases e;rw[hb]at hk;cases hk;exact hn ht)];exact hk⟩
theorem grownBy_setCell (w:World)(a:Addr)(u:Value):w.grownBy (w.setCell a u) (some a.block):=
 ⟨rfl,rfl,rfl,by simp[World.setCell],fun k _ hk=>Below.heap_setCell _ _ _ _ (fun e=>hk (by rw[e]))⟩
end
theorem str_eq {a b:ByteArray}:(a.toList == b.toList)=true↔a=b:=by
 rw[beq_iff_eq,ByteArray.toList_eq,ByteArray.toList_eq];exact⟨fun h=>by
  cases a;cases b
  simp only at h
  congr 1
  exact Array.toList_inj.1 h,fun h=>by rw[h]⟩
theorem str_ne {a b:ByteArray}(h:a≠b):(a.toList == b.toList)=false:=by
 cases hb:(a.toList == b.toList)
 ·rfl
 ·exact absurd (str_eq.1 hb) h
theorem yQ {a:ByteArray}(h:a.size=0):a.toList.isEmpty=true:=by
 rw[ByteArray.toList_eq,List.isEmpty_iff];exact List.eq_nil_of_length_eq_zero (by simpa using h)
theorem ji {a:ByteArray}(h:a.size≠0):a.toList.isEmpty=false:=by
 rw[ByteArray.toList_eq]
 cases hl:a.data.toList with
 | nil=>exact absurd (by have:=congrArg List.length hl;simpa using this) h
 | cons x l=>rfl
theorem qz {w:World}{o:Obj}{n:Nat}(h:n=w.heap.size):(w.alloc o).heap[n]? =some o:=by subst h;exact heap_alloc_new w o
theorem j3 (w:World)(cs:List Value)(t:TypeId):∀j u,cs[j]? =some u→(w.alloc (.cells cs.toArray t)).cell? ((⟨w.heap.size,0,none⟩:Addr).add j)=some u:=by
 intro j u hu;rw[Addr.add_lit,Nat.zero_add];have h:(w.alloc (.cells cs.toArray t)).heap[w.heap.size]? =some (.cells cs.toArray t (0,0)):=qz rfl;simp only[World.cell?,h]
 simpa using hu
theorem qA {w:World}{k:Nat}{o:Obj}(h:w.heap[k]? =some o):k<w.heap.size:=(Array.getElem?_eq_some_iff.1 h).1
theorem zg {w:World}{k:Nat}{o:Obj}(h:w.heap[k]? =some o)(o':Obj):(w.alloc o').heap[k]? =some o:=by
 rw[Below.heap_alloc _ _ _ (qA h)];exact h
theorem zu {w:World}{k:Nat}{o:Obj}(h:w.heap[k]? =some o){a:Addr}(hne:k≠a.block)(u:Value):(w.setCell a u).heap[k]? =some o:=by
 rw[Below.heap_setCell _ _ _ _ hne];exact h
theorem qC {w:World}{g:Nat}{cs:Array Value}{t:TypeId}{fz:Nat×Nat}(h:w.heap[g]? =some (.cells cs t fz))(i:Nat)(u:Value):
 (w.setCell ⟨g,i,none⟩ u).heap[g]? =some (.cells (cs.setIfInBounds i u) t fz):=by
 simp[World.setCell,Array.getElem?_modify,h]
theorem qE {w:World}{g:Nat}{cs:Array Value}{t:TypeId}(h:w.heap[g]? =some (.cells cs t (0,0)))(i:Nat):w.frozen? ⟨g,i,none⟩=false:=by
 simp[World.frozen?,h]
theorem qh {w:World}{g:Nat}{cs:Array Value}{t:TypeId}{fz:Nat×Nat}(h:w.heap[g]? =some (.cells cs t fz))(i:Nat):w.cell? ⟨g,i,none⟩=cs[i]?:=by
 simp[World.cell?,h]
theorem Uz {w:World}{g g':Nat}{o o':Obj}(h:w.heap[g]? =some o)(h':w.heap[g']? =some o')(hne:o≠o'):g≠g':=by
 rintro rfl;rw[h]at h';exact hne (Option.some.inj h')
theorem Kg (g:Nat)(e:TypeId):∀(news:List Value) (o:Nat) (cur:Array Value) (w:World),w.heap[g]? =some (.cells cur e (0,0))→o+news.length≤cur.size→
 ∃cur',(w.setCells g o news).heap[g]? =some (.cells cur' e (0,0))∧cur'.size=cur.size∧cur'.toList=cur.toList.take o ++ news ++ cur.toList.drop (o+news.length)∧w.grownBy (w.setCells g o news) (some g):=by
 intro news
 induction news with
 | nil=>
   intro o cur w h _;exact⟨cur,h,rfl,by simp,⟨rfl,rfl,rfl,Nat.le_refl _,fun _ _ _=>rfl⟩⟩
 | cons v r ih=>
   intro o cur w h hs;simp only[List.length_cons]at hs;have h1:=qC h o v;obtain⟨cur',h2,h3,h4,h5⟩:=ih (o+1) _ _ h1 (by simp;omega);refine⟨cur',h2,by rw[h3];simp,?_,?_⟩
   ·rw[h4];have ho:o<cur.toList.length:=by simpa using (show o<cur.size by omega)
    simp only[Array.toList_setIfInBounds,List.length_cons];rw[List.take_set,List.drop_set];rw[List.take_succ_eq_append_getElem ho,List.set_append];have hl:(cur.toList.take o).length=o:=by simp;omega
    simp only[hl,Nat.lt_irrefl,if_false,Nat.sub_self,List.set_cons_zero];simp only[show o<o+1+r.length from by omega,if_true,List.append_assoc,List.cons_append,List.nil_append]
    congr 3
    congr 1
    omega
   ·refine⟨h5.os,h5.tape,h5.output,?_,fun k hk hn=>?_⟩
    ·have:=h5.size;simpa[World.setCell,World.setCells] using this
    ·have:=h5.block k (by simpa[World.setCell] using hk) hn;rw[show(w.setCells g o (v :: r)).heap[k]? =((w.setCell ⟨g,o,none⟩ v).setCells g (o+1) r).heap[k]? from rfl,this];exact Below.heap_setCell _ _ _ _ (fun e=>hn (by rw[e]))
section
variable {w w':World}{base:Nat}{e:TypeId}{size:Nat}{v:Value}{n:Nat}{xs:List Value}
theorem YS.own (h:YS w base e size v n xs):v.ownBlock=none∨∃g cur,v.ownBlock=some g∧base≤g∧w.heap[g]? =some (.cells cur e (0,0)):=by
 rcases h.2 with⟨rfl,_⟩|⟨g,off,cap,cur,rfl,hb,hg,_⟩
 ·exact .inl rfl
 ·exact .inr ⟨g,cur,rfl,hb,hg⟩
theorem YS.keep (h:YS w base e size v n xs)(hk:∀(g:Nat) (cur:Array Value),v.ownBlock=some g→w.heap[g]? =some (.cells cur e (0,0))→w'.heap[g]? =some (.cells cur e (0,0))):YS w' base e size v n xs:=by
 refine⟨h.1,?_⟩;rcases h.2 with hn | ⟨g,off,cap,cur,rfl,hb,hg,rest⟩
 ·exact .inl hn
 ·exact .inr ⟨g,off,cap,cur,rfl,hb,hk g cur rfl hg,rest⟩
theorem YS.fr {B:Nat}{T:Obj→Prop}(h:YS w base e size v n xs)(hf:Fr B T w w')(hT:∀cur,¬T (.cells cur e (0,0))):YS w' base e size v n xs:=
 h.keep fun _ cur _ hg=>hf.kept _ _ hg (hT cur)
theorem YS.form (h:YS w base e size v n xs)(hn:0<n):∃g off cap,v= .slice (some ⟨g,off,none⟩) n cap∧n≤cap∧base≤g∧(∀j u,xs[j]? =some u→w.cell? ⟨g,off+j,none⟩=some u)∧(∀j,w.frozen? ⟨g,j,none⟩=false)∧
 ∃cur,w.heap[g]? =some (.cells cur e (0,0))∧off+cap*size≤cur.size∧(cur.toList.drop off).take (n*size)=xs:=by
 rcases h.2 with⟨_,h0⟩|⟨g,off,cap,cur,rfl,hb,hg,hnc,hcm,hsz,hx⟩
 ·omega
 ·refine⟨g,off,cap,rfl,hnc,hb,fun j u hu=>?_,qE hg,cur,hg,hsz,hx⟩;rw[qh hg];rw[← hx,List.getElem?_take]at hu
  split at hu
  ·simpa using hu
  ·cases hu
theorem YS.len (h:YS w base e size v n xs):∃a cap,v= .slice a n cap∧n≤cap:=by
 rcases h.2 with⟨rfl,rfl⟩|⟨g,off,cap,cur,rfl,_,_,hnc,_⟩
 ·exact⟨none,0,rfl,Nat.le_refl _⟩
 ·exact⟨_,cap,rfl,hnc⟩
end
section
variable {P:Program}(w:World)
end
section
variable {P:Program}(w:World)
end
def MapAt (w:World)(b:Nat)(L:List (Value×Value)):Prop:=∃es clock,w.heap[b]? =some (.map es clock)∧es.toList.map (fun x=>(x.key,x.val))=L
section
variable {P:Program}{w w':World}{b:Nat}{L:List (Value×Value)}{k e t:TypeId}
open Go.WideMaps
theorem MapAt.keep (h:MapAt w b L)(hk:∀o,w.heap[b]? =some o→w'.heap[b]? =some o):MapAt w' b L:=by
 obtain⟨es,c,h1,h2⟩:=h;exact⟨es,c,hk _ h1,h2⟩
def uw (w:World)(b:Nat)(es:Array MapEntry)(c:Nat):World:={ w with heap:=w.heap.setIfInBounds b (.map es c)}
theorem vJ {es:Array MapEntry}{c:Nat}(hb:b<w.heap.size):(uw w b es c).heap[b]? =some (.map es c):=by simp[uw,hb]
theorem uJ {es:Array MapEntry}{c:Nat}:w.grownBy (uw w b es c) (some b):=
 ⟨rfl,rfl,rfl,by simp[uw],fun k _ hk=>by
  have:k≠b:=fun e=>hk (by rw[e]);simp[uw,Array.getElem?_setIfInBounds_ne (Ne.symm this)]⟩
end
end Go.Proofs.YtpcmilhjpmlbpaaGreatDoor
namespace Go.Proofs.YtpcmilhjpmlbpaaGreatDoor.nm
def qM (s:ByteArray)(k:Nat):Nat:=(s.data.toList[k]?.getD 0).toNat
def walk (s:ByteArray):Nat→Nat→List (Nat×ByteArray)
 | 0,_=>[]
 | f+1,k=>
   if k<s.size then
    if 63<qM s k∨s.size<k+1+qM s k then []
    else(k,s.extract (k+1) (k+1+qM s k)) :: (if qM s k=0 then [] else walk s f (k+1+qM s k))
   else []
def marks (s:ByteArray):List (Nat×ByteArray):=walk s (s.size+1) 0
def ends (s:ByteArray)(p:Nat×ByteArray):Bool:=p.2.size == 0 && p.1+1 == s.size
def qo (s:ByteArray):Bool:=decide (s.size≤255) && (marks s).any (ends s)
theorem walk_at {s:ByteArray}{f k:Nat}(hk:k<s.size)(h:¬(63<qM s k∨s.size<k+1+qM s k)):
 walk s (f+1) k=(k,s.extract (k+1) (k+1+qM s k)) :: (if qM s k=0 then [] else walk s f (k+1+qM s k)):=by
 rw[walk,if_pos hk,if_neg h]
theorem UU {s:ByteArray}{f k:Nat}(h:s.size≤k∨63<qM s k∨s.size<k+1+qM s k):walk s f k= []:=by
 cases f with
 | zero=>rfl
 | succ f=>
   rw[walk]
   split
   ·split
    ·rfl
    ·rename_i h1 h2
     exact absurd (h.resolve_left (by omega)) h2
   ·rfl
theorem zy {s:ByteArray}{k:Nat}(h:k<s.size):qM s k=s[k].toNat:=by
 unfold qM;rw[List.getElem?_eq_getElem (by simpa using h)];rfl
theorem walk_length (s:ByteArray):∀(f k:Nat),k≤s.size→(walk s f k).length≤s.size-k:=by
 intro f
 induction f with
 | zero=>intro k _;simp[walk]
 | succ f ih=>
   intro k hk;rw[walk]
   split
   ·split
    ·simp
    ·rename_i h1 h2
     rw[List.length_cons]
     split
     ·simp;omega
     ·have:=ih (k+1+qM s k) (by omega);omega
   ·simp
theorem vY (s:ByteArray):(marks s).length≤s.size:=by
 have:=walk_length s (s.size+1) 0 (Nat.zero_le _);unfold marks;omega
def qK (s:ByteArray):Int:=if qo s then((marks s).length:Int)-1 else -1
def zQ (s:ByteArray)(k:Int):ByteArray:=
 if 0≤k∧k≤qK s then s.extract (((marks s)[(qK s-k).toNat]?).getD (0,ByteArray.empty)).1 s.size else ByteArray.empty
theorem mark_le (s:ByteArray):∀(f k:Nat) (p:Nat×ByteArray),p∈walk s f k→p.1<s.size:=by
 intro f
 induction f with
 | zero=>intro k p h;simp[walk]at h
 | succ f ih=>
   intro k p h;rw[walk]at h
   split at h
   ·split at h
    ·simp at h
    ·rcases List.mem_cons.1 h with rfl | h
     ·assumption
     ·split at h
      ·simp at h
      ·exact ih _ p h
   ·simp at h
theorem marks_lt {s:ByteArray}{p:Nat×ByteArray}(h:p∈marks s):p.1<s.size:=mark_le s _ _ p h
end Go.Proofs.YtpcmilhjpmlbpaaGreatDoor.nm
namespace Go.Proofs.YtpcmilhjpmlbpaaGreatDoor.dt
open nm
def xR (n:Int)(d:ByteArray):Int:=if(d.size:Int)<n then -1 else n
def yT (d:ByteArray):Int:=if d.size=0 then -1 else if d.size≤qM d 0 then -1 else 1+(qM d 0:Int)
def jZ (d:ByteArray):Nat→Nat→Int
 | 0,_=>-1
 | f+1,k=>if k<d.size then(if yT (d.extract k d.size)<0 then -1 else jZ d f (k+(yT (d.extract k d.size)).toNat)) else if k=0 then -1 else(k:Int)
def QW (d:ByteArray):Int:=jZ d (d.size+1) 0
def Qd (d:ByteArray):Int:=if d.size=0 then -1 else(d.size:Int)
def Yh (d:ByteArray):Int:=if d.size<2 then -1 else if qM d 0=0∧qM d 1=0 then -1 else 2
def Yj (d:ByteArray):Int:=if d.size=0 then -1 else if qM d 0=0 then -1 else yT d
def ZO (d:ByteArray):Nat→Nat→Nat
 | 0,k=>k
 | f+1,k=>if k<d.size∧0<qM d k then ZO d f (k+1+qM d k) else k
def xZ (d:ByteArray):Nat:=ZO d (d.size+1) 0
def QC (d:ByteArray):Int:=if d.size≤xZ d then -1 else if qo (d.extract 0 (xZ d+1))=true then(xZ d:Int)+1 else -1
theorem size_extract (d:ByteArray){k:Nat}(_h:k≤d.size):(d.extract k d.size).size=d.size-k:=by
 rw[ByteArray.size_extract];omega
theorem Zr (d:ByteArray):yT d= -1∨(1≤yT d∧yT d≤d.size∧yT d≤256):=by
 unfold yT
 split
 ·exact .inl rfl
 ·split
  ·exact .inl rfl
  ·have:qM d 0<256:=UInt8.toNat_lt _;omega
theorem Jm {d:ByteArray}{f k:Nat}(h:¬(k<d.size∧0<qM d k)):ZO d f k=k:=by
 cases f with
 | zero=>rfl
 | succ f=>rw[ZO,if_neg h]
theorem V4 {d:ByteArray}{f k:Nat}(h:k<d.size)(h2:0<qM d k):ZO d (f+1) k=ZO d f (k+1+qM d k):=by
 rw[ZO,if_pos ⟨h,h2⟩]
theorem K3 {d:ByteArray}{f k:Nat}(h:d.size≤k):jZ d (f+1) k=if k=0 then -1 else(k:Int):=by
 rw[jZ,if_neg (by omega)]
theorem VM {d:ByteArray}{f k:Nat}(h:k<d.size)(h2:yT (d.extract k d.size)<0):jZ d (f+1) k= -1:=by
 rw[jZ,if_pos h,if_pos h2]
theorem K7 {d:ByteArray}{f k:Nat}(h:k<d.size)(h2:¬yT (d.extract k d.size)<0):jZ d (f+1) k=jZ d f (k+(yT (d.extract k d.size)).toNat):=by
 rw[jZ,if_pos h,if_neg h2]
def bitB (r:ByteArray)(k:Nat):Bool:=decide (qM r (2+k / 8) / 2 ^ (7-k % 8) % 2=1)
def yJ (r:ByteArray)(k:Nat):List Int:=((List.range k).filter (bitB r)).map (fun j=>((qM r 0*256+j:Nat):Int))
def uh (r:ByteArray)(last:Int):Prop:=
 r.size<3∨(qM r 0:Int)≤last∨qM r 1<1∨32<qM r 1∨r.size<2+qM r 1∨qM r (1+qM r 1)=0
instance (r:ByteArray)(last:Int):Decidable (uh r last):=by unfold uh;infer_instance
def yY:Nat→ByteArray→Int→List Int→Option (List Int)
 | 0,_,_,_=>none
 | f+1,r,last,acc=>if r.size=0 then some acc else if uh r last then none
    else yY f (r.extract (2+qM r 1) r.size) (qM r 0) (acc ++ yJ r (8*qM r 1))
def yU (d:ByteArray):Option (List Int):=
 match yY (d.size+1) d (-1) [] with
 | some l=>if l.head? =some 0 then none else some l
 | none=>none
def Q7 (d:ByteArray):Int:=if(yU d).isSome=true then(d.size:Int) else -1
theorem Xd (r:ByteArray)(k:Nat):yJ r (k+1)=yJ r k ++ (if bitB r k=true then [((qM r 0*256+k:Nat):Int)] else []):=by
 unfold yJ;rw[List.range_succ,List.filter_append,List.map_append]
 congr 1
 by_cases h:bitB r k=true <;> simp[h]
theorem blockL_len (r:ByteArray)(k:Nat):(yJ r k).length≤k:=by
 unfold yJ;rw[List.length_map];exact Nat.le_trans (List.length_filter_le _ _) (by simp)
theorem Zp {f:Nat}{r:ByteArray}{last:Int}{acc:List Int}(h:r.size=0):yY (f+1) r last acc=some acc:=by rw[yY,if_pos h]
theorem Qc {f:Nat}{r:ByteArray}{last:Int}{acc:List Int}(h:r.size≠0)(h2:uh r last):yY (f+1) r last acc=none:=by rw[yY,if_neg h,if_pos h2]
theorem QG {f:Nat}{r:ByteArray}{last:Int}{acc:List Int}(h:r.size≠0)(h2:¬uh r last):yY (f+1) r last acc=yY f (r.extract (2+qM r 1) r.size) (qM r 0) (acc ++ yJ r (8*qM r 1)):=by rw[yY,if_neg h,if_neg h2]
end Go.Proofs.YtpcmilhjpmlbpaaGreatDoor.dt
namespace Go.Proofs.YtpcmilhjpmlbpaaGreatDoor.nm
def jf:Nat→List UInt8→Option (List (List UInt8))
 | 0,_=>none
 | _+1,[]=>none
 | f+1,c :: r=>
   if c.toNat=0 then(if r= [] then some [] else none)
   else if 63<c.toNat∨r.length<c.toNat then none
   else(jf f (r.drop c.toNat)).map (r.take c.toNat :: ·)
def rows (s:ByteArray):Option (List (List UInt8)):=if s.size≤255 then jf (s.size+1) s.data.toList else none
def zY:List (List UInt8)→List UInt8
 | []=>[0]
 | l :: ls=>UInt8.ofNat l.length :: (l ++ zY ls)
def Zf (ls:List (List UInt8)):Prop:=∀l∈ls,0<l.length∧l.length≤63
theorem U1:∀(f:Nat) (r:List UInt8) (ls:List (List UInt8)),jf f r=some ls→Zf ls∧r=zY ls:=by
 intro f
 induction f with
 | zero=>intro r ls h;simp[jf]at h
 | succ f ih=>
   intro r ls h
   cases r with
   | nil=>simp[jf]at h
   | cons c r=>
     rw[jf]at h
     split at h
     ·rename_i hc
      split at h
      ·rename_i hr
       cases h
       have h0:c=0:=UInt8.toNat_inj.1 hc;exact⟨fun l hl=>by simp at hl,by rw[hr,h0];rfl⟩
      ·cases h
     ·split at h
      ·cases h
      ·rename_i hc hb
       cases hs:jf f (r.drop c.toNat) with
       | none=>rw[hs]at h;cases h
       | some l2=>
         rw[hs]at h;simp only[Option.map_some,Option.some.injEq]at h;obtain⟨h1,h2⟩:=ih _ _ hs;have hlen:(r.take c.toNat).length=c.toNat:=by rw[List.length_take];omega
         subst h;refine⟨fun l hl=>?_,?_⟩
         ·rcases List.mem_cons.1 hl with rfl | hl
          ·omega
          ·exact h1 l hl
         ·rw[zY,hlen,← h2,List.take_append_drop]
          congr 1
          simp
theorem Kw:∀(ls:List (List UInt8)) (f:Nat),Zf ls→ls.length<f→jf f (zY ls)=some ls:=by
 intro ls
 induction ls with
 | nil=>
   intro f _ hf;obtain⟨f,rfl⟩:∃g,f=g+1:=⟨f-1,by omega⟩;rfl
 | cons l ls ih=>
   intro f ho hf;obtain⟨f,rfl⟩:∃g,f=g+1:=⟨f-1,by simp at hf;omega⟩;obtain⟨h0,h1⟩:=ho l (by simp);have hn:(UInt8.ofNat l.length).toNat=l.length:=by rw[UInt8.toNat_ofNat'];omega
   rw[zY,jf,hn,if_neg (by omega),if_neg (by simp;omega)];rw[List.drop_left,List.take_left,ih f (fun l hl=>ho l (by simp[hl])) (by simpa using hf)];rfl
theorem j6 (ls:List (List UInt8)):ls.length<(zY ls).length:=by
 induction ls with
 | nil=>simp[zY]
 | cons l ls ih=>simp[zY];omega
theorem splitL_fuel {f g:Nat}{r:List UInt8}(hf:r.length<f)(hg:r.length<g):jf f r=jf g r:=by
 cases h:jf f r with
 | some ls=>
   obtain⟨h1,h2⟩:=U1 f r ls h;rw[h2,Kw ls g h1 (by rw[h2]at hg;have:=j6 ls;omega)]
 | none=>
   cases h':jf g r with
   | none=>rfl
   | some ls=>
     obtain⟨h1,h2⟩:=U1 g r ls h';rw[h2,Kw ls f h1 (by rw[h2]at hf;have:=j6 ls;omega)]at h
     cases h
def j4:Nat→List (List UInt8)→List (Nat×ByteArray)
 | k,[]=>[(k,ByteArray.empty)]
 | k,l :: ls=>(k,⟨l.toArray⟩) :: j4 (k+1+l.length) ls
theorem zW (s:ByteArray)(a b:Nat):(s.extract a b).data.toList=(s.data.toList.drop a).take (b-a):=by
 rw[ByteArray.data_extract,Array.toList_extract]
theorem YI {a b:ByteArray}(h:a.data.toList=b.data.toList):a=b:=by
 cases a;cases b
 simp only at h;rw[Array.toList_inj.1 h]
theorem walk_rows (s:ByteArray):∀(f k:Nat),k≤s.size→s.size<k+f→
 (∀ls,jf f (s.data.toList.drop k)=some ls→walk s f k=j4 k ls∧k+(zY ls).length=s.size)∧
 (jf f (s.data.toList.drop k)=none→∀p∈walk s f k,ends s p=false):=by
 intro f
 induction f with
 | zero=>intro k hk hf;omega
 | succ f ih=>
   intro k hk hf;have hlen:(s.data.toList.drop k).length=s.size-k:=by simp
   by_cases hlt:k<s.size
   ·have hd:s.data.toList.drop k=s[k] :: s.data.toList.drop (k+1):=by
     rw[List.drop_eq_getElem_cons (by simpa using hlt)];rfl
    have hsz:qM s k=s[k].toNat:=zy hlt;rw[hd,jf,walk,if_pos hlt,hsz];have hl2:(s.data.toList.drop (k+1)).length=s.size-(k+1):=by simp
    by_cases hz:s[k].toNat=0
    ·rw[if_pos hz];have hnot:¬(63<s[k].toNat∨s.size<k+1+s[k].toNat):=by omega
     rw[if_neg hnot,if_pos hz,hz];have hex:s.extract (k+1) (k+1+0)=ByteArray.empty:=YI (by rw[zW];simp);rw[hex];refine⟨fun ls h=>?_,fun h p hp=>?_⟩
     ·split at h
      ·rename_i hr
       cases h
       have h3:=congrArg List.length hr;rw[hl2,List.length_nil]at h3;refine⟨rfl,?_⟩;show k+1=s.size;omega
      ·cases h
     ·split at h
      ·cases h
      ·rename_i hr
       rw[List.mem_singleton]at hp;subst hp;have:s.size≠k+1:=fun e=>hr (List.eq_nil_of_length_eq_zero (by rw[hl2];omega));simp[ends];omega
    ·rw[if_neg hz];by_cases hb:63<s[k].toNat∨s.size<k+1+s[k].toNat
     ·have hb':63<s[k].toNat∨(s.data.toList.drop (k+1)).length<s[k].toNat:=by rw[hl2];omega
      rw[if_pos hb',if_pos hb];exact⟨(fun ls h=>by cases h),(fun _ p hp=>by simp at hp)⟩
     ·have hb':¬(63<s[k].toNat∨(s.data.toList.drop (k+1)).length<s[k].toNat):=by rw[hl2];omega
      rw[if_neg hb',if_neg hb,if_neg hz,List.drop_drop];obtain⟨i1,i2⟩:=ih (k+1+s[k].toNat) (by omega) (by omega);have hex:(s.extract (k+1) (k+1+s[k].toNat)).data.toList=(s.data.toList.drop (k+1)).take s[k].toNat:=by
       rw[zW];congr 1;omega
      have hsz2:(s.extract (k+1) (k+1+s[k].toNat)).size=s[k].toNat:=by
       show(s.extract (k+1) (k+1+s[k].toNat)).data.size=_;rw[← Array.length_toList,hex,List.length_take,hl2];omega
      refine⟨fun ls h=>?_,fun h p hp=>?_⟩
      ·cases hs:jf f (s.data.toList.drop (k+1+s[k].toNat)) with
       | none=>rw[hs]at h;cases h
       | some l2=>
         rw[hs]at h;simp only[Option.map_some,Option.some.injEq]at h;subst h;obtain⟨j1,j2⟩:=i1 l2 hs;have htl:((s.data.toList.drop (k+1)).take s[k].toNat).length=s[k].toNat:=by rw[List.length_take,hl2];omega
         rw[j1,j4,htl];refine⟨?_,?_⟩
         ·congr 2
          exact YI (by rw[hex])
         ·simp only[zY,List.length_cons,List.length_append,htl];omega
      ·have hn:jf f (s.data.toList.drop (k+1+s[k].toNat))=none:=by
        cases hs:jf f (s.data.toList.drop (k+1+s[k].toNat)) with
        | none=>rfl
        | some l2=>rw[hs]at h;cases h
       rcases List.mem_cons.1 hp with rfl | hp
       ·simp[ends,hsz2];omega
       ·exact i2 hn p hp
   ·have hk2:k=s.size:=by omega
    have hd:s.data.toList.drop k= []:=List.drop_eq_nil_of_le (by simp;omega);rw[hd];refine⟨fun ls h=>by simp[jf]at h,fun _ p hp=>?_⟩;rw[walk,if_neg hlt]at hp;simp at hp
theorem marksAt_ends (s:ByteArray):∀(ls:List (List UInt8)) (k:Nat),k+(zY ls).length=s.size→(j4 k ls).any (ends s)=true:=by
 intro ls
 induction ls with
 | nil=>intro k h;simp[zY]at h;simp[j4,ends];omega
 | cons l ls ih=>
   intro k h;rw[j4,List.any_cons,ih (k+1+l.length) (by simp[zY]at h;omega),Bool.or_true]
theorem jr (s:ByteArray):qo s=(rows s).isSome:=by
 unfold qo rows marks;by_cases hs:s.size≤255
 ·rw[if_pos hs,decide_eq_true hs,Bool.true_and];obtain⟨h1,h2⟩:=walk_rows s (s.size+1) 0 (Nat.zero_le _) (by omega);rw[List.drop_zero]at h1 h2
  cases h:jf (s.size+1) s.data.toList with
  | none=>
    rw[List.any_eq_false.2]
    ·rfl
    ·intro p hp;rw[h2 h p hp];simp
  | some ls=>
    obtain⟨a,b⟩:=h1 ls h;rw[a,marksAt_ends s ls 0 b];rfl
 ·rw[if_neg hs,decide_eq_false hs,Bool.false_and];rfl
theorem yf {s:ByteArray}{ls:List (List UInt8)}(h:rows s=some ls):s.size≤255∧Zf ls∧s.data.toList=zY ls∧marks s=j4 0 ls:=by
 unfold rows at h
 split at h
 ·rename_i hs
  obtain⟨a,b⟩:=U1 _ _ _ h;obtain⟨h1,_⟩:=walk_rows s (s.size+1) 0 (Nat.zero_le _) (by omega);rw[List.drop_zero]at h1;exact⟨hs,a,b,(h1 ls h).1⟩
 ·cases h
theorem rows_put {ls:List (List UInt8)}(ho:Zf ls)(hl:(zY ls).length≤255):rows ⟨(zY ls).toArray⟩=some ls:=by
 unfold rows;rw[if_pos (by simpa[ByteArray.size] using hl)];exact Kw ls _ ho (by have:=j6 ls;simp[ByteArray.size];omega)
theorem marksAt_length (k:Nat)(ls:List (List UInt8)):(j4 k ls).length=ls.length+1:=by
 induction ls generalizing k with
 | nil=>rfl
 | cons l ls ih=>rw[j4,List.length_cons,ih,List.length_cons]
theorem Qp (s:ByteArray):qK s=match rows s with | some ls=>(ls.length:Int) | none=>-1:=by
 unfold qK;rw[jr]
 cases h:rows s with
 | none=>rfl
 | some ls=>
   obtain⟨_,_,_,hm⟩:=yf h;rw[hm,marksAt_length];simp
theorem marksAt_get:∀(ls:List (List UInt8)) (k j:Nat),j≤ls.length→∃b,(j4 k ls)[j]? =some (k+(zY ls).length-(zY (ls.drop j)).length,b):=by
 intro ls
 induction ls with
 | nil=>intro k j hj;have h0:j=0:=(by simpa using hj);subst h0;exact⟨ByteArray.empty,by simp[j4]⟩
 | cons l ls ih=>
   intro k j hj
   cases j with
   | zero=>exact⟨⟨l.toArray⟩,by simp[j4]⟩
   | succ j=>
     obtain⟨b,hb⟩:=ih (k+1+l.length) j (by simpa using hj);refine⟨b,?_⟩;rw[j4,List.getElem?_cons_succ,hb,List.drop_succ_cons]
     congr 2
     simp[zY];omega
theorem putL_drop:∀(ls:List (List UInt8)) (j:Nat),j≤ls.length→zY (ls.drop j)=(zY ls).drop ((zY ls).length-(zY (ls.drop j)).length)∧(zY (ls.drop j)).length≤(zY ls).length:=by
 intro ls
 induction ls with
 | nil=>intro j _;simp
 | cons l ls ih=>
   intro j hj
   cases j with
   | zero=>simp
   | succ j=>
     obtain⟨a,b⟩:=ih j (by simpa using hj);rw[List.drop_succ_cons];refine⟨?_,by simp[zY];omega⟩;have:(zY (l :: ls)).length-(zY (ls.drop j)).length=(1+l.length)+((zY ls).length-(zY (ls.drop j)).length):=by simp[zY];omega
     rw[this,← List.drop_drop,show(zY (l :: ls)).drop (1+l.length)=zY ls by
      rw[zY,Nat.add_comm,List.drop_succ_cons,List.drop_left],← a]
theorem Kv (s:ByteArray)(k:Int):zQ s k=match rows s with
 | some ls=>if 0≤k∧k≤ls.length then⟨(zY (ls.drop (ls.length-k.toNat))).toArray⟩ else ByteArray.empty
 | none=>ByteArray.empty:=by
 unfold zQ;rw[Qp]
 cases h:rows s with
 | none=>simp only;rw[if_neg (by omega)]
 | some ls=>
   obtain⟨_,_,hp,hm⟩:=yf h;simp only
   split
   ·rename_i hk
    obtain⟨b,hb⟩:=marksAt_get ls 0 ((ls.length:Int)-k).toNat (by omega);rw[hm,hb];apply YI;simp only[Option.getD_some,Nat.zero_add];rw[zW,List.take_of_length_le (by simp),hp];have e:((ls.length:Int)-k).toNat=ls.length-k.toNat:=by omega
    rw[e];exact(putL_drop ls _ (by omega)).1.symm
   ·rfl
end Go.Proofs.YtpcmilhjpmlbpaaGreatDoor.nm
namespace Go.Proofs.YtpcmilhjpmlbpaaGreatDoor
open Go.RowKit Go.Shelf
attribute [local go_sem] Oper.semAt_some
theorem JU (F:Fence)(n:Nat)(h5:F.fn 84)(hro:F.round=none)(s:ByteArray)(w:World):
 CallsIn F n Tryz.prog 84 #[.string s] w fun e w'=>e= .returned (.func (.func 135) #[] #[.pointer (some ⟨w.heap.size,0,none⟩)])∧w'=w.alloc (.cells #[.string s] 9):=by
 refine callsIn_of_wp Tryz.func84 rfl h5 ?_ hro;simp only[Tryz.ntmps84,List.size_toArray,List.length_cons,List.length_nil,Nat.reduceAdd,Nat.reduceSub,Array.replicate_succ,Array.replicate_zero,List.push_toArray,List.append_toArray,List.nil_append,List.cons_append]
 gi_wp2
 go_ret;exact⟨rfl,rfl⟩
theorem zw (W:World)(v:Value)(t:TypeId):(W.alloc (.cells #[v] t)).cell? ⟨W.heap.size,0,none⟩=some v∧(W.alloc (.cells #[v] t)).frozen? ⟨W.heap.size,0,none⟩=false:=
 ⟨by rw[qh (qz rfl)];rfl,qE (qz rfl) _⟩
theorem qw {W:World}{a:Addr}{v:Value}(o:Obj)(h:W.cell? a=some v):(W.alloc o).cell? a=some v:=cell_kept h (World.grownBy_alloc W o none) (fun _ e=>by cases e)
theorem ku {W:World}{a:Addr}{v:Value}(o:Obj)(h:W.cell? a=some v)(hf:W.frozen? a=false):(W.alloc o).frozen? a=false:=(frozen_kept h (World.grownBy_alloc W o none) (fun _ e=>by cases e)).trans hf
def zf (b:Nat)(W W':World):Prop:=W'.heap[b]? =W.heap[b]?
theorem zf.refl (b:Nat)(W:World):zf b W W:=rfl
theorem zf.cell {b:Nat}{W W':World}(h:zf b W W')(i:Nat):W'.cell? ⟨b,i,none⟩=W.cell? ⟨b,i,none⟩:=World.cell?_of_block (w:=W) (a:=⟨b,i,none⟩) h
theorem zf.setCell {b:Nat}{W W':World}(h:zf b W W'){a:Addr}(hne:b≠a.block)(u:Value):zf b W (W'.setCell a u):=(Below.heap_setCell _ _ _ _ hne).trans h
theorem zf.alloc {b:Nat}{W W':World}(h:zf b W W')(hb:b<W'.heap.size)(o:Obj):zf b W (W'.alloc o):=(Below.heap_alloc _ _ _ hb).trans h
theorem zf.below {b B:Nat}{W W':World}(h:Below B W W')(hb:b<B):zf b W W':=h.block b hb
theorem uA {b:Nat}:∀{A B C:World},zf b A B→zf b B C→zf b A C:=fun h1 h2=>h2.trans h1
theorem uB {b B:Nat}(hb:b<B):∀(W:World) (l:Nat) (o o':Obj),B≤l→W.heap[l]? =some o→o.isCells=false→o.isWalk=false→zf b W (W.putObj l o'):=
 fun W l o o' hl _ _ _=>by unfold zf;exact World.putObj_heap_other (by omega)
abbrev markV (p:Nat×ByteArray):Array Value:=#[.int .i64 (p.1:Int),.string p.2]
theorem labels1_in (F:Fence)(n:Nat)(h7:F.fn 135)(hro:F.round=none)(hn:1≤n)(l Bs:Nat)(s:ByteArray)(hs:s.size≤140737488355328)(J Jx:List (Nat×ByteArray)→World→Prop)
 (hY:∀pre x W,x∈nm.marks s→J pre W→pre.length<(nm.marks s).length→YieldAt F (n-1) Tryz.prog l #[.int .i64 (x.1:Int),.string x.2] W fun e W'=>
  (e= .returned (.bool true)∧J (pre ++ [x]) W'∧zf Bs W W')∨(e= .returned (.bool false)∧Jx (pre ++ [x]) W'))
 (W:World) (hBs:W.cell? ⟨Bs,0,none⟩=some (.string s)) (h0:J [] W):
 CallsIn F n Tryz.prog 135 #[.func (.yield l) #[] #[],.pointer (some ⟨Bs,0,none⟩)] W fun e W'=>(∃v,e= .returned v)∧
  ((∃ys,ys=nm.marks s∧J ys W')∨(∃pre,pre <+:nm.marks s∧Jx pre W')):=by
 refine callsIn_of_wp Tryz.func135 rfl h7 ?_ hro;simp only[Tryz.ntmps135,List.size_toArray,List.length_cons,List.length_nil,Nat.reduceAdd,Nat.reduceSub,Array.replicate_succ,Array.replicate_zero,List.push_toArray,List.append_toArray,List.nil_append,List.cons_append]
 gi_wp2
 gi_loopw [3,4] (fun i _ wr=>∃(k f:Nat) (pre:List (Nat×ByteArray)),k≤s.size∧s.size<k+f∧i= .int .i64 k∧nm.marks s=pre ++ nm.walk s f k∧J pre wr∧wr.cell? ⟨Bs,0,none⟩=some (.string s))
  (fun i _ _=>s.size-(intOf i).toNat)
 case atStart=>exact⟨0,s.size+1,[],Nat.zero_le _,by omega,rfl,rfl,h0,hBs⟩
 case round=>
  obtain⟨k,f,pre,hk,hf,rfl,hm,hJ,hbx⟩:=hrel;have HM:=qe hm;have HF:=qe hf;clear hm hBs hf;by_cases hlt:k<s.size
  ·have hsz:=nm.zy hlt;have Xn:(s[k].toNat:Int)<256:=by have:=UInt8.toNat_lt s[k];omega
   by_cases h63:63<nm.qM s k
   ·have hend:nm.marks s=pre:=by rw[HM.out,nm.UU (.inr (.inl h63)),List.append_nil]
    have HE:=qe hend;have q1:63<(s[k].toNat:Int):=by omega
    have HSZ:=qe hsz;clear hend h63 hsz
    gi_wp2
    refine⟨fun _ h=>(by cases h),?_⟩
    gi_wp2
    refine bodyPost_ret (results_none rfl _ _ _) rfl ?_;exact⟨⟨_,rfl⟩,.inl ⟨_,rfl,by rw[HE.out];exact hJ⟩⟩
   ·by_cases hlong:s.size<k+1+nm.qM s k
    ·have hend:nm.marks s=pre:=by rw[HM.out,nm.UU (.inr (.inr hlong)),List.append_nil]
     have HE:=qe hend;have q1:(s[k].toNat:Int)≤63:=by omega
     have q2:(s.size:Int)<k+1+s[k].toNat:=by omega
     have HSZ:=qe hsz;clear hend h63 hsz hlong
     gi_wp2
     refine⟨fun _ h=>(by cases h),?_⟩
     gi_wp2
     refine bodyPost_ret (results_none rfl _ _ _) rfl ?_;exact⟨⟨_,rfl⟩,.inl ⟨_,rfl,by rw[HE.out];exact hJ⟩⟩
    ·obtain⟨f',rfl⟩:∃f',f=f'+1:=⟨f-1,by have:=HF.out;omega⟩;have hw:=nm.walk_at (f:=f') hlt (by omega);have hm:=HM.out;rw[hw]at hm;obtain⟨fn,tmps,assign,body,hy,hR⟩:=hY pre (k,s.extract (k+1) (k+1+nm.qM s k)) wr (by rw[hm];simp) hJ (by rw[hm];simp);have q1:(s[k].toNat:Int)≤63:=by omega
     have q2:(k:Int)+1+s[k].toNat≤s.size:=by omega
     dsimp only at hy
     rw[hsz]at hy hR hm;have HMM:=qe hm;have HSZ:=qe hsz;clear hm hw hsz hlong h63;by_cases hz:s[k].toNat=0
     ·have b0:((s[k].toNat:Int) == 0)=true:=by rw[beq_iff_eq];omega
      have hm:=HMM.out;rw[if_pos hz]at hm;have HM3:=qe hm;clear hm hz
      gi_wp2
      refine hR.mono ?_;rintro e W3 (⟨rfl,hJ3,hk3⟩|⟨rfl,hJx3⟩)
      ·gi_wp2
       refine bodyPost_ret (results_none rfl _ _ _) rfl ?_;exact⟨⟨_,rfl⟩,.inl ⟨_,rfl,by rw[HM3.out];exact hJ3⟩⟩
      ·gi_wp2
       refine bodyPost_ret (results_none rfl _ _ _) rfl ?_;exact⟨⟨_,rfl⟩,.inr ⟨_,by rw[HM3.out];exact List.prefix_refl _,hJx3⟩⟩
     ·have b0:((s[k].toNat:Int) == 0)=false:=by rw[beq_eq_false_iff_ne];omega
      have hm:=HMM.out;rw[if_neg hz]at hm;have HM3:=qe hm;have hpos:1≤(s[k].toNat:Int):=by omega
      clear hm hz
      gi_wp2
      refine hR.mono ?_;rintro e W3 (⟨rfl,hJ3,hk3⟩|⟨rfl,hJx3⟩)
      ·have hB3:=(hk3.cell 0).trans hbx;have HB3:=qe hB3;clear hbx
       gi_wp2
       go_roundw
       case rel=>exact⟨k+1+s[k].toNat,f',_,by omega,by have:=HF.out;omega,by go_num,by rw[HM3.out];simp,hJ3,HB3.out⟩
       case measure=>simp[intOf];omega
      ·gi_wp2
       refine bodyPost_ret (results_none rfl _ _ _) rfl ?_;exact⟨⟨_,rfl⟩,.inr ⟨_,by rw[HM3.out];exact⟨nm.walk s f' (k+1+s[k].toNat),by simp⟩,hJx3⟩⟩
  ·have hend:nm.marks s=pre:=by rw[HM.out,nm.UU (.inl (by omega)),List.append_nil]
   have HE:=qe hend;clear hend
   gi_wp2
   go_end0
   exact⟨⟨_,rfl⟩,.inl ⟨_,rfl,by rw[HE.out];exact hJ⟩⟩
theorem Uw (F:Fence)(n:Nat)(h7:F.fn 135)(hro:F.round=none)(hn:1≤n)(Bs:Nat)(s:ByteArray)(hs:s.size≤140737488355328)(w:World)(hBs:Bs<w.heap.size)
 (hc:w.cell? ⟨Bs,0,none⟩=some (.string s)):
 SeqStopsK F n Tryz.prog 135 #[.pointer (some ⟨Bs,0,none⟩)] markV (zf Bs) (fun ys=>ys=nm.marks s) (fun pre=>pre <+:nm.marks s) (nm.marks s).length w:=fun l J Jx W hW _ _ hY h0=>
 labels1_in F n h7 hro hn l Bs s hs J Jx (fun pre x W _=>hY pre x W) W ((hW.cell (p:=⟨Bs,0,none⟩) hBs).trans hc) h0
theorem Ki (F:Fence)(n:Nat)(h7:F.fn 135)(hro:F.round=none)(hn:1≤n)(Bs:Nat)(s:ByteArray)(hs:s.size≤140737488355328)(w:World)(hBs:Bs<w.heap.size)
 (hc:w.cell? ⟨Bs,0,none⟩=some (.string s)):
 SeqStopsK F n Tryz.prog 135 #[.pointer (some ⟨Bs,0,none⟩)] (fun x:{ p:Nat×ByteArray // p∈nm.marks s}=>#[.int .i64 (x.1.1:Int),.string x.1.2]) (zf Bs)
  (fun ys=>ys.map (·.1)=nm.marks s) (fun pre=>pre.map (·.1) <+:nm.marks s) (nm.marks s).length w:=fun l J Jx W hW _ _ hY h0=>by
 refine(labels1_in F n h7 hro hn l Bs s hs (fun pre W=>∃q:List { p:Nat×ByteArray // p∈nm.marks s},q.map (·.1)=pre∧J q W) (fun pre W=>∃q:List { p:Nat×ByteArray // p∈nm.marks s},q.map (·.1)=pre∧Jx q W) ?_ W ((hW.cell (p:=⟨Bs,0,none⟩) hBs).trans hc) ⟨[],rfl,h0⟩).mono ?_
 ·rintro pre x W hx ⟨q,rfl,hJ⟩ hlen;refine(hY q ⟨x,hx⟩ W hJ (by simpa using hlen)).mono ?_;rintro e W' (⟨he,hj,hk⟩|⟨he,hj⟩)
  ·exact .inl ⟨he,⟨q ++ [⟨x,hx⟩],by simp,hj⟩,hk⟩
  ·exact .inr ⟨he,⟨q ++ [⟨x,hx⟩],by simp,hj⟩⟩
 ·rintro e W' ⟨he,⟨ys,hys,q,hq,hj⟩|⟨pre,hpre,q,hq,hj⟩⟩
  ·exact⟨he,.inl ⟨q,hq.trans hys,hj⟩⟩
  ·exact⟨he,.inr ⟨q,by show q.map (·.1) <+:_;rw[hq];exact hpre,hj⟩⟩
end Go.Proofs.YtpcmilhjpmlbpaaGreatDoor
