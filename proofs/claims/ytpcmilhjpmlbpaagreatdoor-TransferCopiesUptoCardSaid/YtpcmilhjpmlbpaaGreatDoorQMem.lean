import Derived.WalkKit
import Derived.Maps.AppendAt
import Derived.Deep.AppendLies
import Derived.Deep.Draws
import Derived.StringKeys
import Derived.WideKeyMaps
import Derived.MapKept
import Derived.ArgAppend
import Derived.Lib.Hide
namespace Go.Proofs.YtpcmilhjpmlbpaaGreatDoor
open Go.RowKit
def Z8 (w:World)(base:Nat)(e:TypeId)(size:Nat)(v:Value)(n:Nat)(xs:List Value):Prop:=
 xs.length=n*size∧
 ((v= .slice none 0 0∧n=0)∨
  ∃g off cap cur,v= .slice (some ⟨g,off,none⟩) n cap∧base≤g∧w.heap[g]? =some (.cells cur e (0,0))∧n≤cap∧cap≤maxLen∧off+cap*size≤cur.size∧(cur.toList.drop off).take (n*size)=xs)
structure Fr (B:Nat)(T:Obj→Prop)(w w':World):Prop where
 below:Below B w w'
 kept:∀(k:Nat) (o:Obj),w.heap[k]? =some o→¬T o→w'.heap[k]? =some o
section
variable {B:Nat}{T:Obj→Prop}{w w' w'':World}
theorem Fr.trans (h:Fr B T w w')(h':Fr B T w' w''):Fr B T w w'':=
 ⟨h.below.trans h'.below,fun k o hk ht=>h'.kept k o (h.kept k o hk ht) ht⟩
theorem Fr.block (h:Fr B T w w'){b:Nat}{o:Obj}(hb:w'.heap[b]? =some o)(ht:T o)(hB:B≤b)
 (hg:w'.grownBy w'' (some b)):Fr B T w w'':=
 h.trans ⟨(Below.refl _ _).grown hg (by have:=(Array.getElem?_eq_some_iff.1 hb).1;omega) (fun k hk=>by cases hk;exact hB),fun k o' hk hn=>by
  have hlt:k<w'.heap.size:=(Array.getElem?_eq_some_iff.1 hk).1
  rw[hg.block k hlt (fun e=>by cases e;rw[hb]at hk;cases hk;exact hn ht)];exact hk⟩
theorem grownBy_setCell (w:World)(a:Addr)(u:Value):w.grownBy (w.setCell a u) (some a.block):=
 ⟨rfl,rfl,rfl,by simp[World.setCell],fun k _ hk=>Below.heap_setCell _ _ _ _ (fun e=>hk (by rw[e]))⟩
end
theorem str_eq {a b:ByteArray}:(a.toList == b.toList)=true↔a=b:=by
 rw[beq_iff_eq,ByteArray.toList_eq,ByteArray.toList_eq]
 exact⟨fun h=>by
  cases a;cases b
  simp only at h
  congr 1
  exact Array.toList_inj.1 h,fun h=>by rw[h]⟩
theorem str_ne {a b:ByteArray}(h:a≠b):(a.toList == b.toList)=false:=by
 cases hb:(a.toList == b.toList)
 ·rfl
 ·exact absurd (str_eq.1 hb) h
theorem yP {a:ByteArray}(h:a.size=0):a.toList.isEmpty=true:=by
 rw[ByteArray.toList_eq,List.isEmpty_iff]
 exact List.eq_nil_of_length_eq_zero (by simpa using h)
theorem jh {a:ByteArray}(h:a.size≠0):a.toList.isEmpty=false:=by
 rw[ByteArray.toList_eq]
 cases hl:a.data.toList with
 | nil=>exact absurd (by have:=congrArg List.length hl;simpa using this) h
 | cons x l=>rfl
theorem qB {w:World}{o:Obj}{n:Nat}(h:n=w.heap.size):(w.alloc o).heap[n]? =some o:=by subst h;exact heap_alloc_new w o
theorem ZM (w:World)(cs:List Value)(t:TypeId):∀j u,cs[j]? =some u→(w.alloc (.cells cs.toArray t)).cell? ((⟨w.heap.size,0,none⟩:Addr).add j)=some u:=by
 intro j u hu
 rw[Addr.add_lit,Nat.zero_add]
 have h:(w.alloc (.cells cs.toArray t)).heap[w.heap.size]? =some (.cells cs.toArray t (0,0)):=qB rfl
 simp only[World.cell?,h]
 simpa using hu
theorem qo {w:World}{k:Nat}{o:Obj}(h:w.heap[k]? =some o):k<w.heap.size:=(Array.getElem?_eq_some_iff.1 h).1
theorem qP {w:World}{k:Nat}{o:Obj}(h:w.heap[k]? =some o)(o':Obj):(w.alloc o').heap[k]? =some o:=by
 rw[Below.heap_alloc _ _ _ (qo h)];exact h
theorem qV {w:World}{k:Nat}{o:Obj}(h:w.heap[k]? =some o){a:Addr}(hne:k≠a.block)(u:Value):(w.setCell a u).heap[k]? =some o:=by
 rw[Below.heap_setCell _ _ _ _ hne];exact h
theorem qy {w:World}{g:Nat}{cs:Array Value}{t:TypeId}{fz:Nat×Nat}(h:w.heap[g]? =some (.cells cs t fz))(i:Nat)(u:Value):
 (w.setCell ⟨g,i,none⟩ u).heap[g]? =some (.cells (cs.setIfInBounds i u) t fz):=by
 simp[World.setCell,Array.getElem?_modify,h]
theorem qD {w:World}{g:Nat}{cs:Array Value}{t:TypeId}(h:w.heap[g]? =some (.cells cs t (0,0)))(i:Nat):w.frozen? ⟨g,i,none⟩=false:=by
 simp[World.frozen?,h]
theorem qg {w:World}{g:Nat}{cs:Array Value}{t:TypeId}{fz:Nat×Nat}(h:w.heap[g]? =some (.cells cs t fz))(i:Nat):w.cell? ⟨g,i,none⟩=cs[i]?:=by
 simp[World.cell?,h]
theorem Y4 {w:World}{g g':Nat}{o o':Obj}(h:w.heap[g]? =some o)(h':w.heap[g']? =some o')(hne:o≠o'):g≠g':=by
 rintro rfl;rw[h]at h';exact hne (Option.some.inj h')
theorem Ji (g:Nat)(e:TypeId):∀(news:List Value) (o:Nat) (cur:Array Value) (w:World),w.heap[g]? =some (.cells cur e (0,0))→o+news.length≤cur.size→
 ∃cur',(w.setCells g o news).heap[g]? =some (.cells cur' e (0,0))∧cur'.size=cur.size∧cur'.toList=cur.toList.take o ++ news ++ cur.toList.drop (o+news.length)∧w.grownBy (w.setCells g o news) (some g):=by
 intro news
 induction news with
 | nil=>
   intro o cur w h _
   exact⟨cur,h,rfl,by simp,⟨rfl,rfl,rfl,Nat.le_refl _,fun _ _ _=>rfl⟩⟩
 | cons v r ih=>
   intro o cur w h hs
   simp only[List.length_cons]at hs
   have h1:=qy h o v
   obtain⟨cur',h2,h3,h4,h5⟩:=ih (o+1) _ _ h1 (by simp;omega)
   refine⟨cur',h2,by rw[h3];simp,?_,?_⟩
   ·rw[h4]
    have ho:o<cur.toList.length:=by simpa using (show o<cur.size by omega)
    simp only[Array.toList_setIfInBounds,List.length_cons]
    rw[List.take_set,List.drop_set]
    rw[List.take_succ_eq_append_getElem ho,List.set_append]
    have hl:(cur.toList.take o).length=o:=by simp;omega
    simp only[hl,Nat.lt_irrefl,if_false,Nat.sub_self,List.set_cons_zero]
    simp only[show o<o+1+r.length from by omega,if_true,List.append_assoc,List.cons_append,List.nil_append]
    congr 3
    congr 1
    omega
   ·refine⟨h5.os,h5.tape,h5.output,?_,fun k hk hn=>?_⟩
    ·have:=h5.size;simpa[World.setCell,World.setCells] using this
    ·have:=h5.block k (by simpa[World.setCell] using hk) hn
     rw[show(w.setCells g o (v :: r)).heap[k]? =((w.setCell ⟨g,o,none⟩ v).setCells g (o+1) r).heap[k]? from rfl,this]
     exact Below.heap_setCell _ _ _ _ (fun e=>hn (by rw[e]))
section
variable {w w':World}{base:Nat}{e:TypeId}{size:Nat}{v:Value}{n:Nat}{xs:List Value}
theorem Z8.own (h:Z8 w base e size v n xs):v.ownBlock=none∨∃g cur,v.ownBlock=some g∧base≤g∧w.heap[g]? =some (.cells cur e (0,0)):=by
 rcases h.2 with⟨rfl,_⟩|⟨g,off,cap,cur,rfl,hb,hg,_⟩
 ·exact .inl rfl
 ·exact .inr ⟨g,cur,rfl,hb,hg⟩
theorem Z8.keep (h:Z8 w base e size v n xs)(hk:∀(g:Nat) (cur:Array Value),v.ownBlock=some g→w.heap[g]? =some (.cells cur e (0,0))→w'.heap[g]? =some (.cells cur e (0,0))):Z8 w' base e size v n xs:=by
 refine⟨h.1,?_⟩
 rcases h.2 with hn | ⟨g,off,cap,cur,rfl,hb,hg,rest⟩
 ·exact .inl hn
 ·exact .inr ⟨g,off,cap,cur,rfl,hb,hk g cur rfl hg,rest⟩
theorem Z8.fr {B:Nat}{T:Obj→Prop}(h:Z8 w base e size v n xs)(hf:Fr B T w w')(hT:∀cur,¬T (.cells cur e (0,0))):Z8 w' base e size v n xs:=
 h.keep fun _ cur _ hg=>hf.kept _ _ hg (hT cur)
theorem Z8.form (h:Z8 w base e size v n xs)(hn:0<n):∃g off cap,v= .slice (some ⟨g,off,none⟩) n cap∧n≤cap∧base≤g∧(∀j u,xs[j]? =some u→w.cell? ⟨g,off+j,none⟩=some u)∧(∀j,w.frozen? ⟨g,j,none⟩=false)∧
 ∃cur,w.heap[g]? =some (.cells cur e (0,0))∧off+cap*size≤cur.size∧(cur.toList.drop off).take (n*size)=xs:=by
 rcases h.2 with⟨_,h0⟩|⟨g,off,cap,cur,rfl,hb,hg,hnc,hcm,hsz,hx⟩
 ·omega
 ·refine⟨g,off,cap,rfl,hnc,hb,fun j u hu=>?_,qD hg,cur,hg,hsz,hx⟩
  rw[qg hg]
  rw[← hx,List.getElem?_take]at hu
  split at hu
  ·simpa using hu
  ·cases hu
theorem Z8.len (h:Z8 w base e size v n xs):∃a cap,v= .slice a n cap∧n≤cap:=by
 rcases h.2 with⟨rfl,rfl⟩|⟨g,off,cap,cur,rfl,_,_,hnc,_⟩
 ·exact⟨none,0,rfl,Nat.le_refl _⟩
 ·exact⟨_,cap,rfl,hnc⟩
end
section
variable {P:Program}(w:World)
end
section
variable {P:Program}(w:World)
end
def MapAt (w:World)(b:Nat)(L:List (Value×Value)):Prop:=∃es clock,w.heap[b]? =some (.map es clock)∧es.toList.map (fun x=>(x.key,x.val))=L
section
variable {P:Program}{w w':World}{b:Nat}{L:List (Value×Value)}{k e t:TypeId}
open Go.WideMaps
theorem MapAt.keep (h:MapAt w b L)(hk:∀o,w.heap[b]? =some o→w'.heap[b]? =some o):MapAt w' b L:=by
 obtain⟨es,c,h1,h2⟩:=h
 exact⟨es,c,hk _ h1,h2⟩
def kJ (w:World)(b:Nat)(es:Array MapEntry)(c:Nat):World:={ w with heap:=w.heap.setIfInBounds b (.map es c)}
theorem uJ {es:Array MapEntry}{c:Nat}(hb:b<w.heap.size):(kJ w b es c).heap[b]? =some (.map es c):=by simp[kJ,hb]
theorem kX {es:Array MapEntry}{c:Nat}:w.grownBy (kJ w b es c) (some b):=
 ⟨rfl,rfl,rfl,by simp[kJ],fun k _ hk=>by
  have:k≠b:=fun e=>hk (by rw[e])
  simp[kJ,Array.getElem?_setIfInBounds_ne (Ne.symm this)]⟩
end
end Go.Proofs.YtpcmilhjpmlbpaaGreatDoor
