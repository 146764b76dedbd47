import Derived.Test.YtdjjemajfphjaaaGreatRows
import Derived.Test.YtdjjemajfphjaaaGreatQSerial
import Derived.Test.YtdjjemajfphjaaaGreatQWirB
import Derived.Deep.Slices
import Derived.Deep.Fields
import Derived.ChangeSame
import Derived.ProofKit
import Derived.OpenShut
import Derived.Lib.SmallJoins
import Derived.JoinedCond
namespace Go.Proofs.YtdjjemajfphjaaaGreat
open Go.ChangeShapes Go.WideShapes Go.Deep Go.RowKit
section
variable {H:Type}{enc:TypeId×Value→H}{P:Program}{w:World}{base:Nat}{spare:Nat→Bool}{held:Bool}
theorem uk {t e:TypeId}{fs:Array Field}{fuel:Nat}{cs:List Value}{x:DataW H×List MemPlace}(ht:P.underlying t=some (.slice e))(he:P.underlying e=some (.struct fs))
 (hone:oneCellFields P fs=true) (hC:P.cellsOf e=fs.size) (h:DataW.trod enc P w base spare held fuel t cs=some x):
 (cs= [.slice none 0 0]∧x=(.nil,[]))∨
 ∃(a:Addr) (len cap m:Nat) (D:Nat→DataW H) (Pl:Nat→List MemPlace),cs= [.slice (some a) len cap]∧base≤a.block∧len≤cap∧cap≤maxLen∧m=(if spare a.block then cap else len)∧
  x=(.slice ((List.range len).map D) ((List.range (m-len)).map fun j=>D (len+j)),MemPlace.row a (m*fs.size) ++ (List.range m).flatMap Pl)∧
  ∀i,i<m→∃(ys:List (DataW H×List MemPlace)) (n:Nat),D i= .agg (ys.map (·.1))∧Pl i=ys.flatMap (·.2)∧ys.length=fs.size∧
   ∀(j:Nat) (f:Field),fs[j]? =some f→∃(v:Value) (y:DataW H×List MemPlace),w.cell? (a.add (i*fs.size+j))=some v∧ys[j]? =some y∧DataW.trod enc P w base spare held n f.type [v]=some y:=by
 rcases open_slice ht h with h0 | ⟨a,len,cap,m,n,D,Pl,hcs,hb,hl,hm,hmm,hx,hi⟩
 ·exact .inl h0
 ·refine .inr ⟨a,len,cap,m,D,Pl,hcs,hb,hl,hm,hmm,by rw[hC]at hx;exact hx,fun i him=>?_⟩
  obtain⟨cs',hc,ht'⟩:=hi i him
  rw[hC]at hc
  obtain⟨ys,n',hn',hy,hlen,hyl,hf⟩:=DataW.trod_struct he ht'
  obtain⟨_,hcl,hat⟩:=World.cells?_some hc
  simp only[Prod.mk.injEq]at hy
  refine⟨ys,n',hy.1,hy.2,hyl,fun j f hj=>?_⟩
  obtain⟨ho,hk⟩:=hone_of hone j f hj
  have hjl:j<fs.size:=(Array.getElem?_eq_some_iff.1 hj).1
  have hcell:=hat j hjl
  have hv:cs'[j]? =some (cs'[j]'(by omega)):=List.getElem?_eq_getElem (by omega)
  have h1:=hf j f hj
  rw[ho,hk]at h1
  have hone':(cs'.drop j).take 1= [cs'[j]'(by omega)]:=by
   rw[List.drop_eq_getElem_cons (by omega)]
   rfl
  rw[hone']at h1
  have hys:ys[j]? =some (ys[j]'(by omega)):=List.getElem?_eq_getElem (by omega)
  refine⟨_,_,?_,hys,h1.trans hys⟩
  rw[← Go.Deep.add_add,hcell,hv]
end
theorem list_of {α:Type}{P:Nat→α→Prop}:∀n:Nat,(∀i,i<n→∃x,P i x)→∃l:List α,l.length=n∧∀(i:Nat) (x:α),l[i]? =some x→P i x:=by
 intro n
 induction n with
 | zero=>intro _;exact⟨[],rfl,fun i x h=>by simp at h⟩
 | succ n ih=>
   intro h
   obtain⟨l,hl,hp⟩:=ih (fun i hi=>h i (by omega))
   obtain⟨x,hx⟩:=h n (by omega)
   refine⟨l ++ [x],by simp[hl],fun i y hy=>?_⟩
   rcases Nat.lt_or_ge i n with hi | hi
   ·rw[List.getElem?_append_left (by omega)]at hy
    exact hp i y hy
   ·rw[List.getElem?_append_right (by omega)]at hy
    have:i-l.length=0:=by
     rcases Nat.eq_zero_or_pos (i-l.length) with h0 | h0
     ·exact h0
     ·obtain⟨j,hj⟩:∃j,i-l.length=j+1:=⟨i-l.length-1,by omega⟩
      rw[hj]at hy;simp at hy
    rw[this]at hy
    simp only[List.getElem?_cons_zero,Option.some.injEq]at hy
    subst hy
    obtain rfl:i=n:=by omega
    exact hx
end Go.Proofs.YtdjjemajfphjaaaGreat
namespace Go.Proofs.YtdjjemajfphjaaaGreat
open Go.RowKit Go.ChangeShapes Go.WideShapes Go.ChangeAt Go.Deep
theorem own:ownKnob Tryz.prog.godebug=none:=by kernel_rfl
section
variable {H:Type}{enc:TypeId×Value→H}{W:World}{spare:Nat→Bool}{held:Bool}
theorem Ju {fuel:Nat}{v:Value}{x:DataW H×List MemPlace}(hf:DataW.trod enc Tryz.prog W 0 spare held fuel 22 [v]=some x):
 ∃a cap l,v= .slice a (l:List Rec).length cap∧l.length≤9223372036854775807∧qy W (.slice a l.length cap) l∧∀r∈l,(Lit.int .i64 r.typ).wf=true:=by
 rcases uk Tryz.underlying22 Tryz.underlying51 (by kernel_rfl) (by kernel_rfl) hf with⟨hcs,_⟩|⟨a,len,cap,m,D,Pl,hcs,hb,hl,hm,hmm,hx,hi⟩
 ·simp only[List.cons.injEq,and_true]at hcs
  exact⟨none,0,[],hcs,by simp,⟨none,0,rfl,Nat.le_refl _,fun k hk=>absurd hk (Nat.not_lt_zero _)⟩,fun r hr=>by simp at hr⟩
 ·simp only[List.cons.injEq,and_true]at hcs
  have hnm:len≤m:=by rw[hmm];split <;> omega
  obtain⟨cs,h1,h2⟩:=list_of (P:=fun i (r:Rec)=>W.cell? (a.add (i*5))=some (.string r.owner)∧W.cell? (a.add (i*5+1))=some (.int .i64 r.typ)∧W.cell? (a.add (i*5+2))=some (.int .i64 r.cls)∧
   W.cell? (a.add (i*5+3))=some (.int .i64 r.ttl)∧W.cell? (a.add (i*5+4))=some (.string r.data)∧(Lit.int .i64 r.typ).wf=true) len (fun i hin=>by
   obtain⟨ys,k,_,_,_,hf⟩:=hi i (by omega)
   obtain⟨v0,y0,c0,_,t0⟩:=hf 0 _ rfl
   obtain⟨v1,y1,c1,_,t1⟩:=hf 1 _ rfl
   obtain⟨v2,y2,c2,_,t2⟩:=hf 2 _ rfl
   obtain⟨v3,y3,c3,_,t3⟩:=hf 3 _ rfl
   obtain⟨v4,y4,c4,_,t4⟩:=hf 4 _ rfl
   obtain⟨s,e0,_⟩:=DataW.trod_string Tryz.underlying9 t0
   obtain⟨q1,e1,_,wq1⟩:=DataW.trod_int Tryz.underlying3 t1
   obtain⟨q2,e2,_,_⟩:=DataW.trod_int Tryz.underlying3 t2
   obtain⟨q3,e3,_,_⟩:=DataW.trod_int Tryz.underlying3 t3
   obtain⟨s4,e4,_⟩:=DataW.trod_string Tryz.underlying9 t4
   simp only[List.cons.injEq,and_true]at e0 e1 e2 e3 e4
   subst e0 e1 e2 e3 e4
   exact⟨⟨s,q1,q2,q3,s4⟩,c0,c1,c2,c3,c4,wq1⟩)
  refine⟨some a,cap,cs,by rw[hcs,h1],?_,⟨some a,cap,rfl,by omega,fun k hk=>?_⟩,fun r hr=>?_⟩
  ·unfold maxLen at hm
   omega
  ·obtain⟨c0,c1,c2,c3,c4,_⟩:=h2 k _ (List.getElem?_eq_getElem hk)
   obtain⟨b,off,spot⟩:=a
   have hspot:spot=none:=by
    have hk0:0<cs.length:=by omega
    have:=World.cell?_spot (h2 0 _ (List.getElem?_eq_getElem hk0)).1
    simpa[Addr.add] using this
   subst hspot
   rw[Addr.add_lit]at c0 c1 c2 c3 c4
   exact⟨b,off,rfl,World.block_lt_of_cell? _ _ c0,c0,by rw[Nat.add_assoc];exact c1,by rw[Nat.add_assoc];exact c2,by rw[Nat.add_assoc];exact c3,by rw[Nat.add_assoc];exact c4⟩
  ·obtain⟨k,hk,rfl⟩:=List.getElem_of_mem hr
   exact(h2 k _ (List.getElem?_eq_getElem hk)).2.2.2.2.2
end
theorem okWide_form {P:Program}{w:World}{r:Reach}{base:Nat}{t e:TypeId}{a:Option Addr}{n c:Nat}(ht:P.underlying t=some (.slice e))(h:Value.okWide P w r base t (.slice a n c)):yS (.slice a n c):=by
 simp only[Value.okWide,ht,Cell.okWide,Cell.ok]at h
 cases a with
 | none=>
   left
   split at h
   all_goals first | (cases h;done) | simp_all
 | some a=>
   obtain⟨b,off,spot⟩:=a
   simp only at h
   obtain⟨_,_,hh⟩:=h
   have hs:spot=none:=hh.2.1
   subst hs
   exact .inr ⟨b,off,n,c,rfl⟩
end Go.Proofs.YtdjjemajfphjaaaGreat
namespace Go.Proofs.YtdjjemajfphjaaaGreat
open Go.RowKit Go.ChangeShapes Go.WideShapes Go.ChangeAt Go.Deep
namespace Qq
theorem one_le {H:Type}(d:DataW H):1≤Rows.uptoBulk d:=by
 cases d with
 | lit l=>cases l <;> simp[Rows.uptoBulk]
 | nil=>simp[Rows.uptoBulk]
 | ptr d=>simp[Rows.uptoBulk]
 | slice elems spare=>simp[Rows.uptoBulk]
 | agg parts=>simp[Rows.uptoBulk]
 | iface t d=>simp[Rows.uptoBulk]
 | map entries=>simp[Rows.uptoBulk]
 | held h=>simp[Rows.uptoBulk]
theorem part_le {H:Type}{d:DataW H}{l:List (DataW H)}(h:d∈l):Rows.uptoBulk d≤Rows.uptoBulkAll l:=by
 induction l with
 | nil=>cases h
 | cons x r ih=>
   simp only[Rows.uptoBulkAll]
   cases List.mem_cons.1 h with
   | inl e=>subst e;omega
   | inr e=>have:=ih e;omega
theorem length_le {H:Type}(l:List (DataW H)):l.length≤Rows.uptoBulkAll l:=by
 induction l with
 | nil=>simp[Rows.uptoBulkAll]
 | cons x r ih=>have:=one_le x;simp only[Rows.uptoBulkAll,List.length_cons];omega
theorem Vj {H:Type}{d:DataW H}{l:List (DataW H)}(h:d∈l):Rows.uptoBulk d≤Rows.uptoBulk (.agg l):=by
 have:=part_le h
 simp only[Rows.uptoBulk]
 omega
theorem Xq {H:Type}{d:DataW H}{l sp:List (DataW H)}(h:d∈l):Rows.uptoBulk d≤Rows.uptoBulk (.slice l sp):=by
 have:=part_le h
 simp only[Rows.uptoBulk]
 omega
theorem UN {H:Type}(l sp:List (DataW H)):l.length≤Rows.uptoBulk (.slice l sp):=by
 have:=length_le l
 simp only[Rows.uptoBulk]
 omega
theorem UJ {H:Type}(s:ByteArray):s.size≤Rows.uptoBulk (DataW.lit (H:=H) (.string s.data.toList)):=by
 have e:s.data.toList.length=s.size:=by rw[Array.length_toList];rfl
 simp only[Rows.uptoBulk,e]
 omega
end Qq
section
variable {H:Type}{enc:TypeId×Value→H}{W:World}{spare:Nat→Bool}{held:Bool}
theorem Jt {fuel:Nat}{a:Option Addr}{cap:Nat}{l:List Rec}{x:DataW H×List MemPlace}(hf:DataW.trod enc Tryz.prog W 0 spare held fuel 22 [.slice a l.length cap]=some x)(hr:qy W (.slice a l.length cap) l):
 l.length≤Rows.uptoBulk x.1∧∀r∈l,r.owner.size≤Rows.uptoBulk x.1:=by
 rcases uk Tryz.underlying22 Tryz.underlying51 (by kernel_rfl) (by kernel_rfl) hf with⟨hcs,_⟩|⟨a',len,cap',m,D,Pl,hcs,hb,hl,hm,hmm,hx,hi⟩
 ·simp only[List.cons.injEq,and_true,Value.slice.injEq]at hcs
  have h0:l= []:=List.eq_nil_of_length_eq_zero hcs.2.1
  subst h0
  exact⟨Nat.zero_le _,fun r hr=>by simp at hr⟩
 ·simp only[List.cons.injEq,and_true,Value.slice.injEq]at hcs
  obtain⟨rfl,hlen,rfl⟩:=hcs
  have hnm:len≤m:=by rw[hmm];split <;> omega
  rw[hx]
  refine⟨?_,fun r hrm=>?_⟩
  ·have:=Qq.UN ((List.range len).map D) ((List.range (m-len)).map fun j=>D (len+j))
   rw[List.length_map,List.length_range]at this
   show l.length≤Rows.uptoBulk (DataW.slice ((List.range len).map D) ((List.range (m-len)).map fun j=>D (len+j)))
   omega
  ·obtain⟨k,hk,rfl⟩:=List.getElem_of_mem hrm
   obtain⟨ys,n,hD,_,_,hfs⟩:=hi k (by omega)
   obtain⟨v0,y0,c0,hy0,t0⟩:=hfs 0 _ rfl
   obtain⟨s,e0,hs,_⟩:=DataW.trod_string Tryz.underlying9 t0
   simp only[List.cons.injEq,and_true]at e0
   subst e0
   obtain⟨_,_,hv,_,hrr⟩:=hr
   simp only[Value.slice.injEq]at hv
   obtain⟨b,off,hbo,_,q0,_⟩:=hrr k hk
   rw[← hv.1]at hbo
   simp only[Option.some.injEq]at hbo
   subst hbo
   rw[Addr.add_lit]at c0
   have c0':W.cell? ⟨b,off+k*5,none⟩=some (.string s):=c0
   rw[q0]at c0'
   simp only[Option.some.injEq,Value.string.injEq]at c0'
   rw[c0']
   have h1:=Qq.UJ (H:=H) s
   have h2:DataW.lit (H:=H) (.string s.data.toList)∈ys.map (·.1):=List.mem_map.2 ⟨y0,List.mem_of_getElem? hy0,by rw[hs]⟩
   have h3:=Qq.Vj h2
   rw[← hD]at h3
   have h4:D k∈(List.range len).map D:=List.mem_map.2 ⟨k,List.mem_range.2 (by omega),rfl⟩
   have h5:=Qq.Xq (sp:=(List.range (m-len)).map fun j=>D (len+j)) h4
   show s.size≤Rows.uptoBulk (DataW.slice ((List.range len).map D) ((List.range (m-len)).map fun j=>D (len+j)))
   omega
theorem open_asks {fuel:Nat}{v:Value}{x:DataW H×List MemPlace}(hf:DataW.trod enc Tryz.prog W 0 spare held fuel 23 [v]=some x):
 ∃a cap l,v= .slice a (l:List Qn).length cap∧l.length≤Rows.uptoBulk x.1∧kJ W (.slice a l.length cap) l∧∀r∈l,(Lit.int .i64 r.typ).wf=true∧r.name.size≤Rows.uptoBulk x.1:=by
 rcases uk Tryz.underlying23 Tryz.underlying63 (by kernel_rfl) (by kernel_rfl) hf with⟨hcs,_⟩|⟨a,len,cap,m,D,Pl,hcs,hb,hl,hm,hmm,hx,hi⟩
 ·simp only[List.cons.injEq,and_true]at hcs
  exact⟨none,0,[],hcs,Nat.zero_le _,⟨none,0,rfl,Nat.le_refl _,fun k hk=>absurd hk (Nat.not_lt_zero _)⟩,fun r hr=>by simp at hr⟩
 ·simp only[List.cons.injEq,and_true]at hcs
  have hnm:len≤m:=by rw[hmm];split <;> omega
  obtain⟨cs,h1,h2⟩:=list_of (P:=fun i (r:Qn)=>W.cell? (a.add (i*3))=some (.string r.name)∧W.cell? (a.add (i*3+1))=some (.int .i64 r.typ)∧W.cell? (a.add (i*3+2))=some (.int .i64 r.cls)∧
   (Lit.int .i64 r.typ).wf=true∧r.name.size≤Rows.uptoBulk (D i)) len (fun i hin=>by
   obtain⟨ys,k,hD,_,_,hf⟩:=hi i (by omega)
   obtain⟨v0,y0,c0,hy0,t0⟩:=hf 0 _ rfl
   obtain⟨v1,y1,c1,_,t1⟩:=hf 1 _ rfl
   obtain⟨v2,y2,c2,_,t2⟩:=hf 2 _ rfl
   obtain⟨s,e0,hs,_⟩:=DataW.trod_string Tryz.underlying9 t0
   obtain⟨q1,e1,_,wq1⟩:=DataW.trod_int Tryz.underlying3 t1
   obtain⟨q2,e2,_,_⟩:=DataW.trod_int Tryz.underlying3 t2
   simp only[List.cons.injEq,and_true]at e0 e1 e2
   subst e0 e1 e2
   have h1:=Qq.UJ (H:=H) s
   have h2:DataW.lit (H:=H) (.string s.data.toList)∈ys.map (·.1):=List.mem_map.2 ⟨y0,List.mem_of_getElem? hy0,by rw[hs]⟩
   have h3:=Qq.Vj h2
   rw[← hD]at h3
   exact⟨⟨s,q1,q2⟩,c0,c1,c2,wq1,Nat.le_trans h1 h3⟩)
  refine⟨some a,cap,cs,by rw[hcs,h1],?_,⟨some a,cap,rfl,by omega,fun k hk=>?_⟩,fun r hr=>?_⟩
  ·rw[hx]
   have:=Qq.UN ((List.range len).map D) ((List.range (m-len)).map fun j=>D (len+j))
   rw[List.length_map,List.length_range]at this
   show cs.length≤Rows.uptoBulk (DataW.slice ((List.range len).map D) ((List.range (m-len)).map fun j=>D (len+j)))
   omega
  ·obtain⟨c0,c1,c2,_⟩:=h2 k _ (List.getElem?_eq_getElem hk)
   obtain⟨b,off,spot⟩:=a
   have hspot:spot=none:=by
    have hk0:0<cs.length:=by omega
    have:=World.cell?_spot (h2 0 _ (List.getElem?_eq_getElem hk0)).1
    simpa[Addr.add] using this
   subst hspot
   rw[Addr.add_lit]at c0 c1 c2
   exact⟨b,off,rfl,World.block_lt_of_cell? _ _ c0,c0,by rw[Nat.add_assoc];exact c1,by rw[Nat.add_assoc];exact c2⟩
  ·obtain⟨k,hk,rfl⟩:=List.getElem_of_mem hr
   obtain⟨_,_,_,hw,hz⟩:=h2 k _ (List.getElem?_eq_getElem hk)
   refine⟨hw,?_⟩
   have h4:D k∈(List.range len).map D:=List.mem_map.2 ⟨k,List.mem_range.2 (by omega),rfl⟩
   have h5:=Qq.Xq (sp:=(List.range (m-len)).map fun j=>D (len+j)) h4
   rw[hx]
   show cs[k].name.size≤Rows.uptoBulk (DataW.slice ((List.range len).map D) ((List.range (m-len)).map fun j=>D (len+j)))
   omega
end
end Go.Proofs.YtdjjemajfphjaaaGreat
