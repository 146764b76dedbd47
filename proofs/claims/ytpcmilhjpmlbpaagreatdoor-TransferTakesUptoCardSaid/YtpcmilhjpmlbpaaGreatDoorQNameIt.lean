import Derived.Test.YtpcmilhjpmlbpaaGreatDoorChecked
import Derived.WalkKit
import Derived.Maps.AppendAt
import Derived.Deep.AppendLies
import Derived.Deep.Draws
import Derived.StringKeys
import Derived.WideKeyMaps
import Derived.MapKept
import Derived.ArgAppend
import Derived.Lib.Hide
import Derived.RangeFuncNested
import Derived.RangeFuncBound
import Derived.RangeFuncCalls
import Derived.RangeFuncLeaves
import Derived.RangeFuncBox
import Derived.Shelf.Abstract
import Derived.Shelf.RegionOpen
import Derived.OwnWalkIn
import Derived.TacticsInMore
import Derived.LoopNIn
import Derived.LoopIn
import Derived.Outline
import Derived.WalkSpells
set_option maxRecDepth 100000
set_option maxHeartbeats 2000000
namespace Go.Proofs.YtpcmilhjpmlbpaaGreatDoor
open Go.RowKit
theorem yM{α:Type}(a:α):∃x,x=a:=⟨a,rfl⟩
theorem gm{w x y:World}(h:Below w.heap.size w x)(k:Below x.heap.size x y):Below w.heap.size w y:=h.trans (k.mono h.size)
theorem gp:type_of% @decide_eq_false:=@decide_eq_false
theorem gF:type_of% @decide_eq_true:=@decide_eq_true
theorem gG:type_of% @beq_eq_false_iff_ne:=@beq_eq_false_iff_ne
theorem gI:type_of% @Nat.le_refl:=@Nat.le_refl
theorem gJ:type_of% @Below.refl:=@Below.refl
theorem gK:type_of% @List.length_append:=@List.length_append
theorem gL:type_of% @Value.slice.injEq:=@Value.slice.injEq
theorem gM:type_of% @Option.some.injEq:=@Option.some.injEq
theorem gN:type_of% @Nat.lt_of_lt_of_le:=@Nat.lt_of_lt_of_le
theorem gP:type_of% @Below.heap_setCell:=@Below.heap_setCell
theorem gQ:type_of% @Nat.le_trans:=@Nat.le_trans
theorem gT:type_of% @List.length_singleton:=@List.length_singleton
theorem gU:type_of% @Nat.zero_le:=@Nat.zero_le
theorem gV:type_of% @List.take_succ_eq_append_getElem:=@List.take_succ_eq_append_getElem
theorem gW:type_of% @Exists.intro:=@Exists.intro
theorem gX:type_of% @Bool.and_eq_true:=@Bool.and_eq_true
theorem gY:type_of% @List.mem_singleton:=@List.mem_singleton
theorem gZ:type_of% @World.ownsRow_nil:=@World.ownsRow_nil
theorem Ha:type_of% @List.length_cons:=@List.length_cons
theorem He:type_of% @List.length_drop:=@List.length_drop
theorem Hf:type_of% @List.drop_eq_getElem_cons:=@List.drop_eq_getElem_cons
theorem Hg:type_of% @IntWalk.i64_in:=@IntWalk.i64_in
theorem Hl:type_of% @List.mem_append:=@List.mem_append
theorem Hm:type_of% @List.eq_nil_of_length_eq_zero:=@List.eq_nil_of_length_eq_zero
theorem Ho:type_of% @List.getElem_cons_zero:=@List.getElem_cons_zero
theorem Hq:type_of% @ByteArray.size_extract:=@ByteArray.size_extract
theorem Hr:type_of% @Option.some.inj:=@Option.some.inj
theorem Ht:type_of% @List.getElem_mem:=@List.getElem_mem
theorem Hu:type_of% @wpQuiet_step:=@wpQuiet_step
theorem Hw:type_of% @wpQuiet_nil:=@wpQuiet_nil
theorem Hy:type_of% @bne_eq_false_iff_eq:=@bne_eq_false_iff_eq
theorem Hz:type_of% @beq_iff_eq:=@beq_iff_eq
theorem H7:type_of% @decide_eq_true_eq:=@decide_eq_true_eq
theorem qe{p:Prop}(h:p):Go.RowKit.Hid p:=h
def Y6 (w:World)(base:Nat)(e:TypeId)(size:Nat)(v:Value)(n:Nat)(xs:List Value):Prop:=
 xs.length=n*size/\
 ((v= .slice none 0 0/\n=0)\/
  ∃g off cap cur,v= .slice (some ⟨g,off,none⟩) n cap/\base<=g/\w.heap[g]? =some (.cells cur e (0,0))/\n<=cap/\cap<=maxLen/\off+cap*size<=cur.size/\(cur.toList.drop off).take (n*size)=xs)
structure Fr (B:Nat)(T:Obj->Prop)(w w':World):Prop where
 below:Below B w w'
 kept:∀(k:Nat) (o:Obj),w.heap[k]? =some o->¬T o->w'.heap[k]? =some o
section
variable {B:Nat}{T:Obj->Prop}{w w' w'':World}
theorem Fr.trans (h:Fr B T w w')(h':Fr B T w' w''):Fr B T w w'':=
 ⟨h.below.trans h'.below,λk o hk ht=>h'.kept k o (h.kept k o hk ht) ht⟩
theorem Fr.block (h:Fr B T w w'){b:Nat}{o:Obj}(hb:w'.heap[b]? =some o)(ht:T o)(hB:B<=b)
 (hg:w'.grownBy w'' (some b)):Fr B T w w'':=
 h.trans ⟨(gJ _ _).grown hg (by have:=(Array.getElem?_eq_some_iff.1 hb).1;omega) (λk hk=>by cases hk;exact hB),λk o' hk hn=>by
  have hlt:k<w'.heap.size:=(Array.getElem?_eq_some_iff.1 hk).1;rw[hg.block k hlt (λe=>by cases e;rw[hb]at hk;cases hk;exact hn ht)];exact hk⟩
theorem grownBy_setCell (w:World)(a:Addr)(u:Value):w.grownBy (w.setCell a u) (some a.block):=
 ⟨rfl,rfl,rfl,by simp[World.setCell],λk _ hk=>gP _ _ _ _ (λe=>hk (by rw[e]))⟩
end
theorem str_eq {a b:ByteArray}:(a.toList == b.toList)=true↔a=b:=by
 rw[Hz,ByteArray.toList_eq,ByteArray.toList_eq]
 exact⟨λh=>by
  cases a;cases b
  simp only at h
  congr 1
  exact Array.toList_inj.1 h,λh=>by rw[h]⟩
theorem str_ne {a b:ByteArray}(h:a≠b):(a.toList == b.toList)=false:=by
 cases hb:(a.toList == b.toList)
 ·rfl
 ·exact absurd (str_eq.1 hb) h
theorem yR {a:ByteArray}(h:a.size=0):a.toList.isEmpty=true:=by
 rw[ByteArray.toList_eq,List.isEmpty_iff];exact Hm (by simpa using h)
theorem jq {a:ByteArray}(h:a.size≠0):a.toList.isEmpty=false:=by
 rw[ByteArray.toList_eq]
 cases hl:a.data.toList with
 | nil=>exact absurd (by have:=congrArg List.length hl;simpa using this) h
 | cons x l=>rfl
theorem qz {w:World}{o:Obj}{n:Nat}(h:n=w.heap.size):(w.alloc o).heap[n]? =some o:=by subst h;exact heap_alloc_new w o
theorem ve (w:World)(cs:List Value)(t:TypeId):∀j u,cs[j]? =some u->(w.alloc (.cells cs.toArray t)).cell? ((⟨w.heap.size,0,none⟩:Addr).add j)=some u:=by
 intro j u hu;rw[Addr.add_lit,Nat.zero_add];have h:(w.alloc (.cells cs.toArray t)).heap[w.heap.size]? =some (.cells cs.toArray t (0,0)):=qz rfl;simp only[World.cell?,h]
 simpa using hu
theorem qA {w:World}{k:Nat}{o:Obj}(h:w.heap[k]? =some o):k<w.heap.size:=(Array.getElem?_eq_some_iff.1 h).1
theorem zi {w:World}{k:Nat}{o:Obj}(h:w.heap[k]? =some o)(o':Obj):(w.alloc o').heap[k]? =some o:=by
 rw[Below.heap_alloc _ _ _ (qA h)];exact h
theorem zB {w:World}{k:Nat}{o:Obj}(h:w.heap[k]? =some o){a:Addr}(hne:k≠a.block)(u:Value):(w.setCell a u).heap[k]? =some o:=by
 rw[gP _ _ _ _ hne];exact h
theorem qC {w:World}{g:Nat}{cs:Array Value}{t:TypeId}{fz:Nat×Nat}(h:w.heap[g]? =some (.cells cs t fz))(i:Nat)(u:Value):
 (w.setCell ⟨g,i,none⟩ u).heap[g]? =some (.cells (cs.setIfInBounds i u) t fz):=by
 simp[World.setCell,Array.getElem?_modify,h]
theorem qB {w:World}{g:Nat}{cs:Array Value}{t:TypeId}(h:w.heap[g]? =some (.cells cs t (0,0)))(i:Nat):w.frozen? ⟨g,i,none⟩=false:=by
 simp[World.frozen?,h]
theorem qg {w:World}{g:Nat}{cs:Array Value}{t:TypeId}{fz:Nat×Nat}(h:w.heap[g]? =some (.cells cs t fz))(i:Nat):w.cell? ⟨g,i,none⟩=cs[i]?:=by
 simp[World.cell?,h]
theorem UW {w:World}{g g':Nat}{o o':Obj}(h:w.heap[g]? =some o)(h':w.heap[g']? =some o')(hne:o≠o'):g≠g':=by
 rintro rfl;rw[h]at h';exact hne (Hr h')
theorem Kw (g:Nat)(e:TypeId):∀(news:List Value) (o:Nat) (cur:Array Value) (w:World),w.heap[g]? =some (.cells cur e (0,0))->o+news.length<=cur.size->
 ∃cur',(w.setCells g o news).heap[g]? =some (.cells cur' e (0,0))/\cur'.size=cur.size/\cur'.toList=cur.toList.take o ++ news ++ cur.toList.drop (o+news.length)/\w.grownBy (w.setCells g o news) (some g):=by
 intro news
 induction news with
 | nil=>
   intro o cur w h _;exact⟨cur,h,rfl,by simp,⟨rfl,rfl,rfl,gI _,λ_ _ _=>rfl⟩⟩
 | cons v r ih=>
   intro o cur w h hs;simp only[Ha]at hs;have h1:=qC h o v;obtain⟨cur',h2,h3,h4,h5⟩:=ih (o+1) _ _ h1 (by simp;omega);refine⟨cur',h2,by rw[h3];simp,?_,?_⟩
   ·rw[h4];have ho:o<cur.toList.length:=by simpa using (show o<cur.size by omega)
    simp only[Array.toList_setIfInBounds,Ha];rw[List.take_set,List.drop_set];rw[gV ho,List.set_append];have hl:(cur.toList.take o).length=o:=by simp;omega
    simp only[hl,Nat.lt_irrefl,if_false,Nat.sub_self,List.set_cons_zero];simp only[show o<o+1+r.length from by omega,if_true,List.append_assoc,List.cons_append,List.nil_append]
    congr 3
    congr 1
    omega
   ·refine⟨h5.os,h5.tape,h5.output,?_,λk hk hn=>?_⟩
    ·have:=h5.size;simpa[World.setCell,World.setCells] using this
    ·have:=h5.block k (by simpa[World.setCell] using hk) hn;rw[show(w.setCells g o (v :: r)).heap[k]? =((w.setCell ⟨g,o,none⟩ v).setCells g (o+1) r).heap[k]? from rfl,this];exact gP _ _ _ _ (λe=>hn (by rw[e]))
section
variable {w w':World}{base:Nat}{e:TypeId}{size:Nat}{v:Value}{n:Nat}{xs:List Value}
theorem Y6.own (h:Y6 w base e size v n xs):v.ownBlock=none\/∃g cur,v.ownBlock=some g/\base<=g/\w.heap[g]? =some (.cells cur e (0,0)):=by
 rcases h.2 with⟨rfl,_⟩|⟨g,off,cap,cur,rfl,hb,hg,_⟩
 ·exact .inl rfl
 ·exact .inr ⟨g,cur,rfl,hb,hg⟩
theorem Y6.keep (h:Y6 w base e size v n xs)(hk:∀(g:Nat) (cur:Array Value),v.ownBlock=some g->w.heap[g]? =some (.cells cur e (0,0))->w'.heap[g]? =some (.cells cur e (0,0))):Y6 w' base e size v n xs:=by
 refine⟨h.1,?_⟩;rcases h.2 with hn | ⟨g,off,cap,cur,rfl,hb,hg,rest⟩
 ·exact .inl hn
 ·exact .inr ⟨g,off,cap,cur,rfl,hb,hk g cur rfl hg,rest⟩
theorem Y6.fr {B:Nat}{T:Obj->Prop}(h:Y6 w base e size v n xs)(hf:Fr B T w w')(hT:∀cur,¬T (.cells cur e (0,0))):Y6 w' base e size v n xs:=
 h.keep λ_ cur _ hg=>hf.kept _ _ hg (hT cur)
theorem Y6.form (h:Y6 w base e size v n xs)(hn:0<n):∃g off cap,v= .slice (some ⟨g,off,none⟩) n cap/\n<=cap/\base<=g/\(∀j u,xs[j]? =some u->w.cell? ⟨g,off+j,none⟩=some u)/\(∀j,w.frozen? ⟨g,j,none⟩=false)/\
 ∃cur,w.heap[g]? =some (.cells cur e (0,0))/\off+cap*size<=cur.size/\(cur.toList.drop off).take (n*size)=xs:=by
 rcases h.2 with⟨_,h0⟩|⟨g,off,cap,cur,rfl,hb,hg,hnc,hcm,hsz,hx⟩
 ·omega
 ·refine⟨g,off,cap,rfl,hnc,hb,λj u hu=>?_,qB hg,cur,hg,hsz,hx⟩;rw[qg hg];rw[<- hx,List.getElem?_take]at hu
  split at hu
  ·simpa using hu
  ·cases hu
theorem Y6.len (h:Y6 w base e size v n xs):∃a cap,v= .slice a n cap/\n<=cap:=by
 rcases h.2 with⟨rfl,rfl⟩|⟨g,off,cap,cur,rfl,_,_,hnc,_⟩
 ·exact⟨none,0,rfl,gI _⟩
 ·exact⟨_,cap,rfl,hnc⟩
end
section
variable {P:Program}(w:World)
end
section
variable {P:Program}(w:World)
end
def MapAt (w:World)(b:Nat)(L:List (Value×Value)):Prop:=∃es clock,w.heap[b]? =some (.map es clock)/\es.toList.map (λx=>(x.key,x.val))=L
section
variable {P:Program}{w w':World}{b:Nat}{L:List (Value×Value)}{k e t:TypeId}
open Go.WideMaps
theorem MapAt.keep (h:MapAt w b L)(hk:∀o,w.heap[b]? =some o->w'.heap[b]? =some o):MapAt w' b L:=by
 obtain⟨es,c,h1,h2⟩:=h;exact⟨es,c,hk _ h1,h2⟩
def uC (w:World)(b:Nat)(es:Array MapEntry)(c:Nat):World:={ w with heap:=w.heap.setIfInBounds b (.map es c)}
theorem vO {es:Array MapEntry}{c:Nat}(hb:b<w.heap.size):(uC w b es c).heap[b]? =some (.map es c):=by simp[uC,hb]
theorem uN {es:Array MapEntry}{c:Nat}:w.grownBy (uC w b es c) (some b):=
 ⟨rfl,rfl,rfl,by simp[uC],λk _ hk=>by
  have:k≠b:=λe=>hk (by rw[e]);simp[uC,Array.getElem?_setIfInBounds_ne (Ne.symm this)]⟩
end
end Go.Proofs.YtpcmilhjpmlbpaaGreatDoor
namespace Go.Proofs.YtpcmilhjpmlbpaaGreatDoor.nm
def qN (s:ByteArray)(k:Nat):Nat:=(s.data.toList[k]?.getD 0).toNat
def walk (s:ByteArray):Nat->Nat->List (Nat×ByteArray)
 | 0,_=>[]
 | f+1,k=>
   if k<s.size then
    if 63<qN s k\/s.size<k+1+qN s k then []
    else(k,s.extract (k+1) (k+1+qN s k)) :: (if qN s k=0 then [] else walk s f (k+1+qN s k))
   else []
def marks (s:ByteArray):List (Nat×ByteArray):=walk s (s.size+1) 0
def ends (s:ByteArray)(p:Nat×ByteArray):Bool:=p.2.size == 0 && p.1+1 == s.size
def qo (s:ByteArray):Bool:=decide (s.size<=255) && (marks s).any (ends s)
theorem walk_at {s:ByteArray}{f k:Nat}(hk:k<s.size)(h:¬(63<qN s k\/s.size<k+1+qN s k)):
 walk s (f+1) k=(k,s.extract (k+1) (k+1+qN s k)) :: (if qN s k=0 then [] else walk s f (k+1+qN s k)):=by
 rw[walk,if_pos hk,if_neg h]
theorem Vo {s:ByteArray}{f k:Nat}(h:s.size<=k\/63<qN s k\/s.size<k+1+qN s k):walk s f k= []:=by
 cases f with
 | zero=>rfl
 | succ f=>
   rw[walk]
   split
   ·split
    ·rfl
    ·rename_i h1 h2
     exact absurd (h.resolve_left (by omega)) h2
   ·rfl
theorem zF {s:ByteArray}{k:Nat}(h:k<s.size):qN s k=s[k].toNat:=by
 unfold qN;rw[List.getElem?_eq_getElem (by simpa using h)];rfl
theorem walk_length (s:ByteArray):∀(f k:Nat),k<=s.size->(walk s f k).length<=s.size-k:=by
 intro f
 induction f with
 | zero=>intro k _;simp[walk]
 | succ f ih=>
   intro k hk;rw[walk]
   split
   ·split
    ·simp
    ·rename_i h1 h2
     rw[Ha]
     split
     ·simp;omega
     ·have:=ih (k+1+qN s k) (by omega);omega
   ·simp
theorem xm (s:ByteArray):(marks s).length<=s.size:=by
 have:=walk_length s (s.size+1) 0 (gU _);unfold marks;omega
def qM (s:ByteArray):Int:=if qo s then((marks s).length:Int)-1 else -1
def zQ (s:ByteArray)(k:Int):ByteArray:=
 if 0<=k/\k<=qM s then s.extract (((marks s)[(qM s-k).toNat]?).getD (0,ByteArray.empty)).1 s.size else ByteArray.empty
theorem mark_le (s:ByteArray):∀(f k:Nat) (p:Nat×ByteArray),p∈walk s f k->p.1<s.size:=by
 intro f
 induction f with
 | zero=>intro k p h;simp[walk]at h
 | succ f ih=>
   intro k p h;rw[walk]at h
   split at h
   ·split at h
    ·simp at h
    ·rcases List.mem_cons.1 h with rfl | h
     ·assumption
     ·split at h
      ·simp at h
      ·exact ih _ p h
   ·simp at h
theorem marks_lt {s:ByteArray}{p:Nat×ByteArray}(h:p∈marks s):p.1<s.size:=mark_le s _ _ p h
end Go.Proofs.YtpcmilhjpmlbpaaGreatDoor.nm
namespace Go.Proofs.YtpcmilhjpmlbpaaGreatDoor.dt
open nm
def xU (n:Int)(d:ByteArray):Int:=if(d.size:Int)<n then -1 else n
def yZ (d:ByteArray):Int:=if d.size=0 then -1 else if d.size<=qN d 0 then -1 else 1+(qN d 0:Int)
def jW (d:ByteArray):Nat->Nat->Int
 | 0,_=>-1
 | f+1,k=>if k<d.size then(if yZ (d.extract k d.size)<0 then -1 else jW d f (k+(yZ (d.extract k d.size)).toNat)) else if k=0 then -1 else(k:Int)
def Q6 (d:ByteArray):Int:=jW d (d.size+1) 0
def Qh (d:ByteArray):Int:=if d.size=0 then -1 else(d.size:Int)
def Yt (d:ByteArray):Int:=if d.size<2 then -1 else if qN d 0=0/\qN d 1=0 then -1 else 2
def Yv (d:ByteArray):Int:=if d.size=0 then -1 else if qN d 0=0 then -1 else yZ d
def ZP (d:ByteArray):Nat->Nat->Nat
 | 0,k=>k
 | f+1,k=>if k<d.size/\0<qN d k then ZP d f (k+1+qN d k) else k
def Qc (d:ByteArray):Nat:=ZP d (d.size+1) 0
def QJ (d:ByteArray):Int:=if d.size<=Qc d then -1 else if qo (d.extract 0 (Qc d+1))=true then(Qc d:Int)+1 else -1
theorem size_extract (d:ByteArray){k:Nat}(_h:k<=d.size):(d.extract k d.size).size=d.size-k:=by
 rw[Hq];omega
theorem Zy (d:ByteArray):yZ d= -1\/(1<=yZ d/\yZ d<=d.size/\yZ d<=256):=by
 unfold yZ
 split
 ·exact .inl rfl
 ·split
  ·exact .inl rfl
  ·have:qN d 0<256:=UInt8.toNat_lt _;omega
theorem JA {d:ByteArray}{f k:Nat}(h:¬(k<d.size/\0<qN d k)):ZP d f k=k:=by
 cases f with
 | zero=>rfl
 | succ f=>rw[ZP,if_neg h]
theorem Xl {d:ByteArray}{f k:Nat}(h:k<d.size)(h2:0<qN d k):ZP d (f+1) k=ZP d f (k+1+qN d k):=by
 rw[ZP,if_pos ⟨h,h2⟩]
theorem Uo {d:ByteArray}{f k:Nat}(h:d.size<=k):jW d (f+1) k=if k=0 then -1 else(k:Int):=by
 rw[jW,if_neg (by omega)]
theorem V4 {d:ByteArray}{f k:Nat}(h:k<d.size)(h2:yZ (d.extract k d.size)<0):jW d (f+1) k= -1:=by
 rw[jW,if_pos h,if_pos h2]
theorem Uq {d:ByteArray}{f k:Nat}(h:k<d.size)(h2:¬yZ (d.extract k d.size)<0):jW d (f+1) k=jW d f (k+(yZ (d.extract k d.size)).toNat):=by
 rw[jW,if_pos h,if_neg h2]
def bitB (r:ByteArray)(k:Nat):Bool:=decide (qN r (2+k / 8) / 2 ^ (7-k % 8) % 2=1)
def yI (r:ByteArray)(k:Nat):List Int:=((List.range k).filter (bitB r)).map (λj=>((qN r 0*256+j:Nat):Int))
def um (r:ByteArray)(last:Int):Prop:=
 r.size<3\/(qN r 0:Int)<=last\/qN r 1<1\/32<qN r 1\/r.size<2+qN r 1\/qN r (1+qN r 1)=0
instance (r:ByteArray)(last:Int):Decidable (um r last):=by unfold um;infer_instance
def jd:Nat->ByteArray->Int->List Int->Option (List Int)
 | 0,_,_,_=>none
 | f+1,r,last,acc=>if r.size=0 then some acc else if um r last then none
    else jd f (r.extract (2+qN r 1) r.size) (qN r 0) (acc ++ yI r (8*qN r 1))
def ja (d:ByteArray):Option (List Int):=
 match jd (d.size+1) d (-1) [] with
 | some l=>if l.head? =some 0 then none else some l
 | none=>none
def Ze (d:ByteArray):Int:=if(ja d).isSome=true then(d.size:Int) else -1
theorem Xr (r:ByteArray)(k:Nat):yI r (k+1)=yI r k ++ (if bitB r k=true then [((qN r 0*256+k:Nat):Int)] else []):=by
 unfold yI;rw[List.range_succ,List.filter_append,List.map_append]
 congr 1
 by_cases h:bitB r k=true <;> simp[h]
theorem blockL_len (r:ByteArray)(k:Nat):(yI r k).length<=k:=by
 unfold yI;rw[List.length_map];exact gQ (List.length_filter_le _ _) (by simp)
theorem Zw {f:Nat}{r:ByteArray}{last:Int}{acc:List Int}(h:r.size=0):jd (f+1) r last acc=some acc:=by rw[jd,if_pos h]
theorem Qg {f:Nat}{r:ByteArray}{last:Int}{acc:List Int}(h:r.size≠0)(h2:um r last):jd (f+1) r last acc=none:=by rw[jd,if_neg h,if_pos h2]
theorem QN {f:Nat}{r:ByteArray}{last:Int}{acc:List Int}(h:r.size≠0)(h2:¬um r last):jd (f+1) r last acc=jd f (r.extract (2+qN r 1) r.size) (qN r 0) (acc ++ yI r (8*qN r 1)):=by rw[jd,if_neg h,if_neg h2]
end Go.Proofs.YtpcmilhjpmlbpaaGreatDoor.dt
namespace Go.Proofs.YtpcmilhjpmlbpaaGreatDoor.nm
def jl:Nat->List UInt8->Option (List (List UInt8))
 | 0,_=>none
 | _+1,[]=>none
 | f+1,c :: r=>
   if c.toNat=0 then(if r= [] then some [] else none)
   else if 63<c.toNat\/r.length<c.toNat then none
   else(jl f (r.drop c.toNat)).map (r.take c.toNat :: ·)
def rows (s:ByteArray):Option (List (List UInt8)):=if s.size<=255 then jl (s.size+1) s.data.toList else none
def zX:List (List UInt8)->List UInt8
 | []=>[0]
 | l :: ls=>UInt8.ofNat l.length :: (l ++ zX ls)
def Zj (ls:List (List UInt8)):Prop:=∀l∈ls,0<l.length/\l.length<=63
theorem Vr:∀(f:Nat) (r:List UInt8) (ls:List (List UInt8)),jl f r=some ls->Zj ls/\r=zX ls:=by
 intro f
 induction f with
 | zero=>intro r ls h;simp[jl]at h
 | succ f ih=>
   intro r ls h
   cases r with
   | nil=>simp[jl]at h
   | cons c r=>
     rw[jl]at h
     split at h
     ·rename_i hc
      split at h
      ·rename_i hr
       cases h
       have h0:c=0:=UInt8.toNat_inj.1 hc;exact⟨λl hl=>by simp at hl,by rw[hr,h0];rfl⟩
      ·cases h
     ·split at h
      ·cases h
      ·rename_i hc hb
       cases hs:jl f (r.drop c.toNat) with
       | none=>rw[hs]at h;cases h
       | some l2=>
         rw[hs]at h;simp only[Option.map_some,gM]at h;obtain⟨h1,h2⟩:=ih _ _ hs;have hlen:(r.take c.toNat).length=c.toNat:=by rw[List.length_take];omega
         subst h;refine⟨λl hl=>?_,?_⟩
         ·rcases List.mem_cons.1 hl with rfl | hl
          ·omega
          ·exact h1 l hl
         ·rw[zX,hlen,<- h2,List.take_append_drop]
          congr 1
          simp
theorem KQ:∀(ls:List (List UInt8)) (f:Nat),Zj ls->ls.length<f->jl f (zX ls)=some ls:=by
 intro ls
 induction ls with
 | nil=>
   intro f _ hf;obtain⟨f,rfl⟩:∃g,f=g+1:=⟨f-1,by omega⟩;rfl
 | cons l ls ih=>
   intro f ho hf;obtain⟨f,rfl⟩:∃g,f=g+1:=⟨f-1,by simp at hf;omega⟩;obtain⟨h0,h1⟩:=ho l (by simp);have hn:(UInt8.ofNat l.length).toNat=l.length:=by rw[UInt8.toNat_ofNat'];omega
   rw[zX,jl,hn,if_neg (by omega),if_neg (by simp;omega)];rw[List.drop_left,List.take_left,ih f (λl hl=>ho l (by simp[hl])) (by simpa using hf)];rfl
theorem ku (ls:List (List UInt8)):ls.length<(zX ls).length:=by
 induction ls with
 | nil=>simp[zX]
 | cons l ls ih=>simp[zX];omega
theorem splitL_fuel {f g:Nat}{r:List UInt8}(hf:r.length<f)(hg:r.length<g):jl f r=jl g r:=by
 cases h:jl f r with
 | some ls=>
   obtain⟨h1,h2⟩:=Vr f r ls h;rw[h2,KQ ls g h1 (by rw[h2]at hg;have:=ku ls;omega)]
 | none=>
   cases h':jl g r with
   | none=>rfl
   | some ls=>
     obtain⟨h1,h2⟩:=Vr g r ls h';rw[h2,KQ ls f h1 (by rw[h2]at hf;have:=ku ls;omega)]at h
     cases h
def jY:Nat->List (List UInt8)->List (Nat×ByteArray)
 | k,[]=>[(k,ByteArray.empty)]
 | k,l :: ls=>(k,⟨l.toArray⟩) :: jY (k+1+l.length) ls
theorem zW (s:ByteArray)(a b:Nat):(s.extract a b).data.toList=(s.data.toList.drop a).take (b-a):=by
 rw[ByteArray.data_extract,Array.toList_extract]
theorem YX {a b:ByteArray}(h:a.data.toList=b.data.toList):a=b:=by
 cases a;cases b
 simp only at h;rw[Array.toList_inj.1 h]
theorem walk_rows (s:ByteArray):∀(f k:Nat),k<=s.size->s.size<k+f->
 (∀ls,jl f (s.data.toList.drop k)=some ls->walk s f k=jY k ls/\k+(zX ls).length=s.size)/\
 (jl f (s.data.toList.drop k)=none->∀p∈walk s f k,ends s p=false):=by
 intro f
 induction f with
 | zero=>intro k hk hf;omega
 | succ f ih=>
   intro k hk hf;have hlen:(s.data.toList.drop k).length=s.size-k:=by simp
   by_cases hlt:k<s.size
   ·have hd:s.data.toList.drop k=s[k] :: s.data.toList.drop (k+1):=by
     rw[Hf (by simpa using hlt)];rfl
    have hsz:qN s k=s[k].toNat:=zF hlt;rw[hd,jl,walk,if_pos hlt,hsz];have hl2:(s.data.toList.drop (k+1)).length=s.size-(k+1):=by simp
    by_cases hz:s[k].toNat=0
    ·rw[if_pos hz];have hnot:¬(63<s[k].toNat\/s.size<k+1+s[k].toNat):=by omega
     rw[if_neg hnot,if_pos hz,hz];have hex:s.extract (k+1) (k+1+0)=ByteArray.empty:=YX (by rw[zW];simp);rw[hex];refine⟨λls h=>?_,λh p hp=>?_⟩
     ·split at h
      ·rename_i hr
       cases h
       have h3:=congrArg List.length hr;rw[hl2,List.length_nil]at h3;refine⟨rfl,?_⟩;show k+1=s.size;omega
      ·cases h
     ·split at h
      ·cases h
      ·rename_i hr
       rw[gY]at hp;subst hp;have:s.size≠k+1:=λe=>hr (Hm (by rw[hl2];omega));simp[ends];omega
    ·rw[if_neg hz];by_cases hb:63<s[k].toNat\/s.size<k+1+s[k].toNat
     ·have hb':63<s[k].toNat\/(s.data.toList.drop (k+1)).length<s[k].toNat:=by rw[hl2];omega
      rw[if_pos hb',if_pos hb];exact⟨(λls h=>by cases h),(λ_ p hp=>by simp at hp)⟩
     ·have hb':¬(63<s[k].toNat\/(s.data.toList.drop (k+1)).length<s[k].toNat):=by rw[hl2];omega
      rw[if_neg hb',if_neg hb,if_neg hz,List.drop_drop];obtain⟨i1,i2⟩:=ih (k+1+s[k].toNat) (by omega) (by omega);have hex:(s.extract (k+1) (k+1+s[k].toNat)).data.toList=(s.data.toList.drop (k+1)).take s[k].toNat:=by
       rw[zW];congr 1;omega
      have hsz2:(s.extract (k+1) (k+1+s[k].toNat)).size=s[k].toNat:=by
       show(s.extract (k+1) (k+1+s[k].toNat)).data.size=_;rw[<- Array.length_toList,hex,List.length_take,hl2];omega
      refine⟨λls h=>?_,λh p hp=>?_⟩
      ·cases hs:jl f (s.data.toList.drop (k+1+s[k].toNat)) with
       | none=>rw[hs]at h;cases h
       | some l2=>
         rw[hs]at h;simp only[Option.map_some,gM]at h;subst h;obtain⟨j1,j2⟩:=i1 l2 hs;have htl:((s.data.toList.drop (k+1)).take s[k].toNat).length=s[k].toNat:=by rw[List.length_take,hl2];omega
         rw[j1,jY,htl];refine⟨?_,?_⟩
         ·congr 2
          exact YX (by rw[hex])
         ·simp only[zX,Ha,gK,htl];omega
      ·have hn:jl f (s.data.toList.drop (k+1+s[k].toNat))=none:=by
        cases hs:jl f (s.data.toList.drop (k+1+s[k].toNat)) with
        | none=>rfl
        | some l2=>rw[hs]at h;cases h
       rcases List.mem_cons.1 hp with rfl | hp
       ·simp[ends,hsz2];omega
       ·exact i2 hn p hp
   ·have hk2:k=s.size:=by omega
    have hd:s.data.toList.drop k= []:=List.drop_eq_nil_of_le (by simp;omega);rw[hd];refine⟨λls h=>by simp[jl]at h,λ_ p hp=>?_⟩;rw[walk,if_neg hlt]at hp;simp at hp
theorem marksAt_ends (s:ByteArray):∀(ls:List (List UInt8)) (k:Nat),k+(zX ls).length=s.size->(jY k ls).any (ends s)=true:=by
 intro ls
 induction ls with
 | nil=>intro k h;simp[zX]at h;simp[jY,ends];omega
 | cons l ls ih=>
   intro k h;rw[jY,List.any_cons,ih (k+1+l.length) (by simp[zX]at h;omega),Bool.or_true]
theorem jA (s:ByteArray):qo s=(rows s).isSome:=by
 unfold qo rows marks;by_cases hs:s.size<=255
 ·rw[if_pos hs,gF hs,Bool.true_and];obtain⟨h1,h2⟩:=walk_rows s (s.size+1) 0 (gU _) (by omega);rw[List.drop_zero]at h1 h2
  cases h:jl (s.size+1) s.data.toList with
  | none=>
    rw[List.any_eq_false.2]
    ·rfl
    ·intro p hp;rw[h2 h p hp];simp
  | some ls=>
    obtain⟨a,b⟩:=h1 ls h;rw[a,marksAt_ends s ls 0 b];rfl
 ·rw[if_neg hs,gp hs,Bool.false_and];rfl
theorem yc {s:ByteArray}{ls:List (List UInt8)}(h:rows s=some ls):s.size<=255/\Zj ls/\s.data.toList=zX ls/\marks s=jY 0 ls:=by
 unfold rows at h
 split at h
 ·rename_i hs
  obtain⟨a,b⟩:=Vr _ _ _ h;obtain⟨h1,_⟩:=walk_rows s (s.size+1) 0 (gU _) (by omega);rw[List.drop_zero]at h1;exact⟨hs,a,b,(h1 ls h).1⟩
 ·cases h
theorem rows_put {ls:List (List UInt8)}(ho:Zj ls)(hl:(zX ls).length<=255):rows ⟨(zX ls).toArray⟩=some ls:=by
 unfold rows;rw[if_pos (by simpa[ByteArray.size] using hl)];exact KQ ls _ ho (by have:=ku ls;simp[ByteArray.size];omega)
theorem marksAt_length (k:Nat)(ls:List (List UInt8)):(jY k ls).length=ls.length+1:=by
 induction ls generalizing k with
 | nil=>rfl
 | cons l ls ih=>rw[jY,Ha,ih,Ha]
theorem Qx (s:ByteArray):qM s=match rows s with | some ls=>(ls.length:Int) | none=>-1:=by
 unfold qM;rw[jA]
 cases h:rows s with
 | none=>rfl
 | some ls=>
   obtain⟨_,_,_,hm⟩:=yc h;rw[hm,marksAt_length];simp
theorem marksAt_get:∀(ls:List (List UInt8)) (k j:Nat),j<=ls.length->∃b,(jY k ls)[j]? =some (k+(zX ls).length-(zX (ls.drop j)).length,b):=by
 intro ls
 induction ls with
 | nil=>intro k j hj;have h0:j=0:=(by simpa using hj);subst h0;exact⟨ByteArray.empty,by simp[jY]⟩
 | cons l ls ih=>
   intro k j hj
   cases j with
   | zero=>exact⟨⟨l.toArray⟩,by simp[jY]⟩
   | succ j=>
     obtain⟨b,hb⟩:=ih (k+1+l.length) j (by simpa using hj);refine⟨b,?_⟩;rw[jY,List.getElem?_cons_succ,hb,List.drop_succ_cons]
     congr 2
     simp[zX];omega
theorem putL_drop:∀(ls:List (List UInt8)) (j:Nat),j<=ls.length->zX (ls.drop j)=(zX ls).drop ((zX ls).length-(zX (ls.drop j)).length)/\(zX (ls.drop j)).length<=(zX ls).length:=by
 intro ls
 induction ls with
 | nil=>intro j _;simp
 | cons l ls ih=>
   intro j hj
   cases j with
   | zero=>simp
   | succ j=>
     obtain⟨a,b⟩:=ih j (by simpa using hj);rw[List.drop_succ_cons];refine⟨?_,by simp[zX];omega⟩;have:(zX (l :: ls)).length-(zX (ls.drop j)).length=(1+l.length)+((zX ls).length-(zX (ls.drop j)).length):=by simp[zX];omega
     rw[this,<- List.drop_drop,show(zX (l :: ls)).drop (1+l.length)=zX ls by
      rw[zX,Nat.add_comm,List.drop_succ_cons,List.drop_left],<- a]
theorem KP (s:ByteArray)(k:Int):zQ s k=match rows s with
 | some ls=>if 0<=k/\k<=ls.length then⟨(zX (ls.drop (ls.length-k.toNat))).toArray⟩ else ByteArray.empty
 | none=>ByteArray.empty:=by
 unfold zQ;rw[Qx]
 cases h:rows s with
 | none=>simp only;rw[if_neg (by omega)]
 | some ls=>
   obtain⟨_,_,hp,hm⟩:=yc h;simp only
   split
   ·rename_i hk
    obtain⟨b,hb⟩:=marksAt_get ls 0 ((ls.length:Int)-k).toNat (by omega);rw[hm,hb];apply YX;simp only[Option.getD_some,Nat.zero_add];rw[zW,List.take_of_length_le (by simp),hp];have e:((ls.length:Int)-k).toNat=ls.length-k.toNat:=by omega
    rw[e];exact(putL_drop ls _ (by omega)).1.symm
   ·rfl
end Go.Proofs.YtpcmilhjpmlbpaaGreatDoor.nm
namespace Go.Proofs.YtpcmilhjpmlbpaaGreatDoor
open Go.RowKit Go.Shelf
attribute [local go_sem] Oper.semAt_some
theorem J8 (F:Fence)(n:Nat)(h5:F.fn 84)(hro:F.round=none)(s:ByteArray)(w:World):
 CallsIn F n Tryz.prog 84 #[.string s] w λe w'=>e= .returned (.func (.func 135) #[] #[.pointer (some ⟨w.heap.size,0,none⟩)])/\w'=w.alloc (.cells #[.string s] 9):=by
 refine callsIn_of_wp Tryz.func84 rfl h5 ?_ hro;simp only[Tryz.ntmps84,List.size_toArray,Ha,List.length_nil,Nat.reduceAdd,Nat.reduceSub,Array.replicate_succ,Array.replicate_zero,List.push_toArray,List.append_toArray,List.nil_append,List.cons_append]
 gi_wp2
 go_ret;exact⟨rfl,rfl⟩
theorem zC (W:World)(v:Value)(t:TypeId):(W.alloc (.cells #[v] t)).cell? ⟨W.heap.size,0,none⟩=some v/\(W.alloc (.cells #[v] t)).frozen? ⟨W.heap.size,0,none⟩=false:=
 ⟨by rw[qg (qz rfl)];rfl,qB (qz rfl) _⟩
theorem qx {W:World}{a:Addr}{v:Value}(o:Obj)(h:W.cell? a=some v):(W.alloc o).cell? a=some v:=cell_kept h (World.grownBy_alloc W o none) (λ_ e=>by cases e)
theorem kE {W:World}{a:Addr}{v:Value}(o:Obj)(h:W.cell? a=some v)(hf:W.frozen? a=false):(W.alloc o).frozen? a=false:=(frozen_kept h (World.grownBy_alloc W o none) (λ_ e=>by cases e)).trans hf
def ze (b:Nat)(W W':World):Prop:=W'.heap[b]? =W.heap[b]?
theorem ze.refl (b:Nat)(W:World):ze b W W:=rfl
theorem ze.cell {b:Nat}{W W':World}(h:ze b W W')(i:Nat):W'.cell? ⟨b,i,none⟩=W.cell? ⟨b,i,none⟩:=World.cell?_of_block (w:=W) (a:=⟨b,i,none⟩) h
theorem ze.setCell {b:Nat}{W W':World}(h:ze b W W'){a:Addr}(hne:b≠a.block)(u:Value):ze b W (W'.setCell a u):=(gP _ _ _ _ hne).trans h
theorem ze.alloc {b:Nat}{W W':World}(h:ze b W W')(hb:b<W'.heap.size)(o:Obj):ze b W (W'.alloc o):=(Below.heap_alloc _ _ _ hb).trans h
theorem ze.below {b B:Nat}{W W':World}(h:Below B W W')(hb:b<B):ze b W W':=h.block b hb
theorem uD {b:Nat}:∀{A B C:World},ze b A B->ze b B C->ze b A C:=λh1 h2=>h2.trans h1
theorem uE {b B:Nat}(hb:b<B):∀(W:World) (l:Nat) (o o':Obj),B<=l->W.heap[l]? =some o->o.isCells=false->o.isWalk=false->ze b W (W.putObj l o'):=
 λW l o o' hl _ _ _=>by unfold ze;exact World.putObj_heap_other (by omega)
abbrev markV (p:Nat×ByteArray):Array Value:=#[.int .i64 (p.1:Int),.string p.2]
theorem labels1_in (F:Fence)(n:Nat)(h7:F.fn 135)(hro:F.round=none)(hn:1<=n)(l Bs:Nat)(s:ByteArray)(hs:s.size<=140737488355328)(J Jx:List (Nat×ByteArray)->World->Prop)
 (hY:∀pre x W,x∈nm.marks s->J pre W->pre.length<(nm.marks s).length->YieldAt F (n-1) Tryz.prog l #[.int .i64 (x.1:Int),.string x.2] W λe W'=>
  (e= .returned (.bool true)/\J (pre ++ [x]) W'/\ze Bs W W')\/(e= .returned (.bool false)/\Jx (pre ++ [x]) W'))
 (W:World) (hBs:W.cell? ⟨Bs,0,none⟩=some (.string s)) (h0:J [] W):
 CallsIn F n Tryz.prog 135 #[.func (.yield l) #[] #[],.pointer (some ⟨Bs,0,none⟩)] W λe W'=>(∃v,e= .returned v)/\
  ((∃ys,ys=nm.marks s/\J ys W')\/(∃pre,pre <+:nm.marks s/\Jx pre W')):=by
 refine callsIn_of_wp Tryz.func135 rfl h7 ?_ hro;simp only[Tryz.ntmps135,List.size_toArray,Ha,List.length_nil,Nat.reduceAdd,Nat.reduceSub,Array.replicate_succ,Array.replicate_zero,List.push_toArray,List.append_toArray,List.nil_append,List.cons_append]
 gi_wp2
 gi_loopw [3,4] (λi _ wr=>∃(k f:Nat) (pre:List (Nat×ByteArray)),k<=s.size/\s.size<k+f/\i= .int .i64 k/\nm.marks s=pre ++ nm.walk s f k/\J pre wr/\wr.cell? ⟨Bs,0,none⟩=some (.string s))
  (λi _ _=>s.size-(intOf i).toNat)
 case atStart=>exact⟨0,s.size+1,[],gU _,by omega,rfl,rfl,h0,hBs⟩
 case round=>
  obtain⟨k,f,pre,hk,hf,rfl,hm,hJ,hbx⟩:=hrel;have HM:=qe hm;have HF:=qe hf;clear hm hBs hf;by_cases hlt:k<s.size
  ·have hsz:=nm.zF hlt;have Xz:(s[k].toNat:Int)<256:=by have:=UInt8.toNat_lt s[k];omega
   by_cases h63:63<nm.qN s k
   ·have hend:nm.marks s=pre:=by rw[HM.out,nm.Vo (.inr (.inl h63)),List.append_nil]
    have HE:=qe hend;have q1:63<(s[k].toNat:Int):=by omega
    have HSZ:=qe hsz;clear hend h63 hsz
    gi_wp2
    refine⟨λ_ h=>(by cases h),?_⟩
    gi_wp2
    refine bodyPost_ret (results_none rfl _ _ _) rfl ?_;exact⟨⟨_,rfl⟩,.inl ⟨_,rfl,by rw[HE.out];exact hJ⟩⟩
   ·by_cases hlong:s.size<k+1+nm.qN s k
    ·have hend:nm.marks s=pre:=by rw[HM.out,nm.Vo (.inr (.inr hlong)),List.append_nil]
     have HE:=qe hend;have q1:(s[k].toNat:Int)<=63:=by omega
     have q2:(s.size:Int)<k+1+s[k].toNat:=by omega
     have HSZ:=qe hsz;clear hend h63 hsz hlong
     gi_wp2
     refine⟨λ_ h=>(by cases h),?_⟩
     gi_wp2
     refine bodyPost_ret (results_none rfl _ _ _) rfl ?_;exact⟨⟨_,rfl⟩,.inl ⟨_,rfl,by rw[HE.out];exact hJ⟩⟩
    ·obtain⟨f',rfl⟩:∃f',f=f'+1:=⟨f-1,by have:=HF.out;omega⟩;have hw:=nm.walk_at (f:=f') hlt (by omega);have hm:=HM.out;rw[hw]at hm;obtain⟨fn,tmps,assign,body,hy,hR⟩:=hY pre (k,s.extract (k+1) (k+1+nm.qN s k)) wr (by rw[hm];simp) hJ (by rw[hm];simp);have q1:(s[k].toNat:Int)<=63:=by omega
     have q2:(k:Int)+1+s[k].toNat<=s.size:=by omega
     dsimp only at hy
     rw[hsz]at hy hR hm;have HMM:=qe hm;have HSZ:=qe hsz;clear hm hw hsz hlong h63;by_cases hz:s[k].toNat=0
     ·have b0:((s[k].toNat:Int) == 0)=true:=by rw[Hz];omega
      have hm:=HMM.out;rw[if_pos hz]at hm;have HM3:=qe hm;clear hm hz
      gi_wp2
      refine hR.mono ?_;rintro e W3 (⟨rfl,hJ3,hk3⟩|⟨rfl,hJx3⟩)
      ·gi_wp2
       refine bodyPost_ret (results_none rfl _ _ _) rfl ?_;exact⟨⟨_,rfl⟩,.inl ⟨_,rfl,by rw[HM3.out];exact hJ3⟩⟩
      ·gi_wp2
       refine bodyPost_ret (results_none rfl _ _ _) rfl ?_;exact⟨⟨_,rfl⟩,.inr ⟨_,by rw[HM3.out];exact List.prefix_refl _,hJx3⟩⟩
     ·have b0:((s[k].toNat:Int) == 0)=false:=by rw[gG];omega
      have hm:=HMM.out;rw[if_neg hz]at hm;have HM3:=qe hm;have hpos:1<=(s[k].toNat:Int):=by omega
      clear hm hz
      gi_wp2
      refine hR.mono ?_;rintro e W3 (⟨rfl,hJ3,hk3⟩|⟨rfl,hJx3⟩)
      ·have hB3:=(hk3.cell 0).trans hbx;have HB3:=qe hB3;clear hbx
       gi_wp2
       go_roundw
       case rel=>exact⟨k+1+s[k].toNat,f',_,by omega,by have:=HF.out;omega,by go_num,by rw[HM3.out];simp,hJ3,HB3.out⟩
       case measure=>simp[intOf];omega
      ·gi_wp2
       refine bodyPost_ret (results_none rfl _ _ _) rfl ?_;exact⟨⟨_,rfl⟩,.inr ⟨_,by rw[HM3.out];exact⟨nm.walk s f' (k+1+s[k].toNat),by simp⟩,hJx3⟩⟩
  ·have hend:nm.marks s=pre:=by rw[HM.out,nm.Vo (.inl (by omega)),List.append_nil]
   have HE:=qe hend;clear hend
   gi_wp2
   go_end0
   exact⟨⟨_,rfl⟩,.inl ⟨_,rfl,by rw[HE.out];exact hJ⟩⟩
theorem UQ (F:Fence)(n:Nat)(h7:F.fn 135)(hro:F.round=none)(hn:1<=n)(Bs:Nat)(s:ByteArray)(hs:s.size<=140737488355328)(w:World)(hBs:Bs<w.heap.size)
 (hc:w.cell? ⟨Bs,0,none⟩=some (.string s)):
 SeqStopsK F n Tryz.prog 135 #[.pointer (some ⟨Bs,0,none⟩)] markV (ze Bs) (λys=>ys=nm.marks s) (λpre=>pre <+:nm.marks s) (nm.marks s).length w:=λl J Jx W hW _ _ hY h0=>
 labels1_in F n h7 hro hn l Bs s hs J Jx (λpre x W _=>hY pre x W) W ((hW.cell (p:=⟨Bs,0,none⟩) hBs).trans hc) h0
theorem KA (F:Fence)(n:Nat)(h7:F.fn 135)(hro:F.round=none)(hn:1<=n)(Bs:Nat)(s:ByteArray)(hs:s.size<=140737488355328)(w:World)(hBs:Bs<w.heap.size)
 (hc:w.cell? ⟨Bs,0,none⟩=some (.string s)):
 SeqStopsK F n Tryz.prog 135 #[.pointer (some ⟨Bs,0,none⟩)] (λx:{ p:Nat×ByteArray // p∈nm.marks s}=>#[.int .i64 (x.1.1:Int),.string x.1.2]) (ze Bs)
  (λys=>ys.map (·.1)=nm.marks s) (λpre=>pre.map (·.1) <+:nm.marks s) (nm.marks s).length w:=λl J Jx W hW _ _ hY h0=>by
 refine(labels1_in F n h7 hro hn l Bs s hs (λpre W=>∃q:List { p:Nat×ByteArray // p∈nm.marks s},q.map (·.1)=pre/\J q W) (λpre W=>∃q:List { p:Nat×ByteArray // p∈nm.marks s},q.map (·.1)=pre/\Jx q W) ?_ W ((hW.cell (p:=⟨Bs,0,none⟩) hBs).trans hc) ⟨[],rfl,h0⟩).mono ?_
 ·rintro pre x W hx ⟨q,rfl,hJ⟩ hlen;refine(hY q ⟨x,hx⟩ W hJ (by simpa using hlen)).mono ?_;rintro e W' (⟨he,hj,hk⟩|⟨he,hj⟩)
  ·exact .inl ⟨he,⟨q ++ [⟨x,hx⟩],by simp,hj⟩,hk⟩
  ·exact .inr ⟨he,⟨q ++ [⟨x,hx⟩],by simp,hj⟩⟩
 ·rintro e W' ⟨he,⟨ys,hys,q,hq,hj⟩|⟨pre,hpre,q,hq,hj⟩⟩
  ·exact⟨he,.inl ⟨q,hq.trans hys,hj⟩⟩
  ·exact⟨he,.inr ⟨q,by show q.map (·.1) <+:_;rw[hq];exact hpre,hj⟩⟩
end Go.Proofs.YtpcmilhjpmlbpaaGreatDoor
