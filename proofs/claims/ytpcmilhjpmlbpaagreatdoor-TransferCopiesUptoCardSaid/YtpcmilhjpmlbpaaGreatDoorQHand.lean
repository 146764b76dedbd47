import Derived.Test.YtpcmilhjpmlbpaaGreatDoorRows
import Derived.Test.YtpcmilhjpmlbpaaGreatDoorQRzF
import Derived.Test.YtpcmilhjpmlbpaaGreatDoorQTrQ
import Derived.Test.YtpcmilhjpmlbpaaGreatDoorQTrW
import Derived.Test.YtpcmilhjpmlbpaaGreatDoorQTrJ
import Derived.Test.YtpcmilhjpmlbpaaGreatDoorQCpI
import Derived.Test.YtpcmilhjpmlbpaaGreatDoorQCpW
import Derived.Deep.Slices
import Derived.Deep.Fields
import Derived.ChangeSame
import Derived.ProofKit
import Derived.OpenShut
import Derived.Lib.SmallJoins
import Derived.JoinedCond
import Derived.LaidHandle
import Derived.Stop.Joined
import Derived.LaidLaws
set_option maxRecDepth 100000
set_option maxHeartbeats 1000000
namespace Go.Proofs.YtpcmilhjpmlbpaaGreatDoor
open Go.ChangeShapes Go.WideShapes Go.Deep Go.RowKit
section
variable {H:Type}{enc:TypeId×Value→H}{P:Program}{w:World}{base:Nat}{spare:Nat→Bool}{held:Bool}
theorem uT {t e:TypeId}{fs:Array Field}{fuel:Nat}{cs:List Value}{x:DataW H×List MemPlace}(ht:P.underlying t=some (.slice e))(he:P.underlying e=some (.struct fs))
 (hone:oneCellFields P fs=true) (hC:P.cellsOf e=fs.size) (h:DataW.trod enc P w base spare held fuel t cs=some x):
 (cs= [.slice none 0 0]∧x=(.nil,[]))∨
 ∃(a:Addr) (len cap m:Nat) (D:Nat→DataW H) (Pl:Nat→List MemPlace),cs= [.slice (some a) len cap]∧base≤a.block∧len≤cap∧cap≤maxLen∧m=(if spare a.block then cap else len)∧
  x=(.slice ((List.range len).map D) ((List.range (m-len)).map fun j=>D (len+j)),MemPlace.row a (m*fs.size) ++ (List.range m).flatMap Pl)∧
  ∀i,i<m→∃(ys:List (DataW H×List MemPlace)) (n:Nat),D i= .agg (ys.map (·.1))∧Pl i=ys.flatMap (·.2)∧ys.length=fs.size∧
   ∀(j:Nat) (f:Field),fs[j]? =some f→∃(v:Value) (y:DataW H×List MemPlace),w.cell? (a.add (i*fs.size+j))=some v∧ys[j]? =some y∧DataW.trod enc P w base spare held n f.type [v]=some y:=by
 rcases open_slice ht h with h0 | ⟨a,len,cap,m,n,D,Pl,hcs,hb,hl,hm,hmm,hx,hi⟩
 ·exact .inl h0
 ·refine .inr ⟨a,len,cap,m,D,Pl,hcs,hb,hl,hm,hmm,by rw[hC]at hx;exact hx,fun i him=>?_⟩
  obtain⟨cs',hc,ht'⟩:=hi i him
  rw[hC]at hc
  obtain⟨ys,n',hn',hy,hlen,hyl,hf⟩:=DataW.trod_struct he ht'
  obtain⟨_,hcl,hat⟩:=World.cells?_some hc
  simp only[Prod.mk.injEq]at hy
  refine⟨ys,n',hy.1,hy.2,hyl,fun j f hj=>?_⟩
  obtain⟨ho,hk⟩:=hone_of hone j f hj
  have hjl:j<fs.size:=(Array.getElem?_eq_some_iff.1 hj).1
  have hcell:=hat j hjl
  have hv:cs'[j]? =some (cs'[j]'(by omega)):=List.getElem?_eq_getElem (by omega)
  have h1:=hf j f hj
  rw[ho,hk]at h1
  have hone':(cs'.drop j).take 1= [cs'[j]'(by omega)]:=by
   rw[List.drop_eq_getElem_cons (by omega)]
   rfl
  rw[hone']at h1
  have hys:ys[j]? =some (ys[j]'(by omega)):=List.getElem?_eq_getElem (by omega)
  refine⟨_,_,?_,hys,h1.trans hys⟩
  rw[← Go.Deep.add_add,hcell,hv]
end
theorem list_of {α:Type}{P:Nat→α→Prop}:∀n:Nat,(∀i,i<n→∃x,P i x)→∃l:List α,l.length=n∧∀(i:Nat) (x:α),l[i]? =some x→P i x:=by
 intro n
 induction n with
 | zero=>intro _;exact⟨[],rfl,fun i x h=>by simp at h⟩
 | succ n ih=>
   intro h
   obtain⟨l,hl,hp⟩:=ih (fun i hi=>h i (by omega))
   obtain⟨x,hx⟩:=h n (by omega)
   refine⟨l ++ [x],by simp[hl],fun i y hy=>?_⟩
   rcases Nat.lt_or_ge i n with hi | hi
   ·rw[List.getElem?_append_left (by omega)]at hy
    exact hp i y hy
   ·rw[List.getElem?_append_right (by omega)]at hy
    have:i-l.length=0:=by
     rcases Nat.eq_zero_or_pos (i-l.length) with h0 | h0
     ·exact h0
     ·obtain⟨j,hj⟩:∃j,i-l.length=j+1:=⟨i-l.length-1,by omega⟩
      rw[hj]at hy;simp at hy
    rw[this]at hy
    simp only[List.getElem?_cons_zero,Option.some.injEq]at hy
    subst hy
    obtain rfl:i=n:=by omega
    exact hx
end Go.Proofs.YtpcmilhjpmlbpaaGreatDoor
namespace Go.Proofs.YtpcmilhjpmlbpaaGreatDoor
open Go.RowKit Go.ChangeShapes Go.WideShapes Go.ChangeAt Go.Deep
theorem own:ownKnob Tryz.prog.godebug=none:=by kernel_rfl
section
variable {H:Type}{enc:TypeId×Value→H}{W:World}{spare:Nat→Bool}{held:Bool}
theorem open_recs {fuel:Nat}{v:Value}{x:DataW H×List MemPlace}(hf:DataW.trod enc Tryz.prog W 0 spare held fuel 31 [v]=some x):
 ∃a cap l,v= .slice a (l:List Rec).length cap∧l.length≤9223372036854775807∧qz W (.slice a l.length cap) l∧∀r∈l,(Lit.int .i64 r.typ).wf=true:=by
 rcases uT Tryz.underlying31 Tryz.underlying80 (by kernel_rfl) (by kernel_rfl) hf with⟨hcs,_⟩|⟨a,len,cap,m,D,Pl,hcs,hb,hl,hm,hmm,hx,hi⟩
 ·simp only[List.cons.injEq,and_true]at hcs
  exact⟨none,0,[],hcs,by simp,⟨none,0,rfl,Nat.le_refl _,fun k hk=>absurd hk (Nat.not_lt_zero _)⟩,fun r hr=>by simp at hr⟩
 ·simp only[List.cons.injEq,and_true]at hcs
  have hnm:len≤m:=by rw[hmm];split <;> omega
  obtain⟨cs,h1,h2⟩:=list_of (P:=fun i (r:Rec)=>W.cell? (a.add (i*5))=some (.string r.owner)∧W.cell? (a.add (i*5+1))=some (.int .i64 r.typ)∧W.cell? (a.add (i*5+2))=some (.int .i64 r.cls)∧
   W.cell? (a.add (i*5+3))=some (.int .i64 r.ttl)∧W.cell? (a.add (i*5+4))=some (.string r.data)∧(Lit.int .i64 r.typ).wf=true) len (fun i hin=>by
   obtain⟨ys,k,_,_,_,hf⟩:=hi i (by omega)
   obtain⟨v0,y0,c0,_,t0⟩:=hf 0 _ rfl
   obtain⟨v1,y1,c1,_,t1⟩:=hf 1 _ rfl
   obtain⟨v2,y2,c2,_,t2⟩:=hf 2 _ rfl
   obtain⟨v3,y3,c3,_,t3⟩:=hf 3 _ rfl
   obtain⟨v4,y4,c4,_,t4⟩:=hf 4 _ rfl
   obtain⟨s,e0,_⟩:=DataW.trod_string Tryz.underlying9 t0
   obtain⟨q1,e1,_,wq1⟩:=DataW.trod_int Tryz.underlying3 t1
   obtain⟨q2,e2,_,_⟩:=DataW.trod_int Tryz.underlying3 t2
   obtain⟨q3,e3,_,_⟩:=DataW.trod_int Tryz.underlying3 t3
   obtain⟨s4,e4,_⟩:=DataW.trod_string Tryz.underlying9 t4
   simp only[List.cons.injEq,and_true]at e0 e1 e2 e3 e4
   subst e0 e1 e2 e3 e4
   exact⟨⟨s,q1,q2,q3,s4⟩,c0,c1,c2,c3,c4,wq1⟩)
  refine⟨some a,cap,cs,by rw[hcs,h1],?_,⟨some a,cap,rfl,by omega,fun k hk=>?_⟩,fun r hr=>?_⟩
  ·unfold maxLen at hm
   omega
  ·obtain⟨c0,c1,c2,c3,c4,_⟩:=h2 k _ (List.getElem?_eq_getElem hk)
   obtain⟨b,off,spot⟩:=a
   have hspot:spot=none:=by
    have hk0:0<cs.length:=by omega
    have:=World.cell?_spot (h2 0 _ (List.getElem?_eq_getElem hk0)).1
    simpa[Addr.add] using this
   subst hspot
   rw[Addr.add_lit]at c0 c1 c2 c3 c4
   exact⟨b,off,rfl,World.block_lt_of_cell? _ _ c0,c0,by rw[Nat.add_assoc];exact c1,by rw[Nat.add_assoc];exact c2,by rw[Nat.add_assoc];exact c3,by rw[Nat.add_assoc];exact c4⟩
  ·obtain⟨k,hk,rfl⟩:=List.getElem_of_mem hr
   exact(h2 k _ (List.getElem?_eq_getElem hk)).2.2.2.2.2
end
end Go.Proofs.YtpcmilhjpmlbpaaGreatDoor
namespace Go.Proofs.YtpcmilhjpmlbpaaGreatDoor
open Go.RowKit Go.ChangeShapes Go.WideShapes Go.ChangeAt Go.Deep
namespace Jr
theorem one_le {H:Type}(d:DataW H):1≤Rows.uptoBulk d:=by
 cases d with
 | lit l=>cases l <;> simp[Rows.uptoBulk]
 | nil=>simp[Rows.uptoBulk]
 | ptr d=>simp[Rows.uptoBulk]
 | slice elems spare=>simp[Rows.uptoBulk]
 | agg parts=>simp[Rows.uptoBulk]
 | iface t d=>simp[Rows.uptoBulk]
 | map entries=>simp[Rows.uptoBulk]
 | held h=>simp[Rows.uptoBulk]
theorem part_le {H:Type}{d:DataW H}{l:List (DataW H)}(h:d∈l):Rows.uptoBulk d≤Rows.uptoBulkAll l:=by
 induction l with
 | nil=>cases h
 | cons x r ih=>
   simp only[Rows.uptoBulkAll]
   cases List.mem_cons.1 h with
   | inl e=>subst e;omega
   | inr e=>have:=ih e;omega
theorem length_le {H:Type}(l:List (DataW H)):l.length≤Rows.uptoBulkAll l:=by
 induction l with
 | nil=>simp[Rows.uptoBulkAll]
 | cons x r ih=>have:=one_le x;simp only[Rows.uptoBulkAll,List.length_cons];omega
theorem agg_le {H:Type}{d:DataW H}{l:List (DataW H)}(h:d∈l):Rows.uptoBulk d≤Rows.uptoBulk (.agg l):=by
 have:=part_le h
 simp only[Rows.uptoBulk]
 omega
theorem slice_part {H:Type}{d:DataW H}{l sp:List (DataW H)}(h:d∈l):Rows.uptoBulk d≤Rows.uptoBulk (.slice l sp):=by
 have:=part_le h
 simp only[Rows.uptoBulk]
 omega
theorem slice_len {H:Type}(l sp:List (DataW H)):l.length≤Rows.uptoBulk (.slice l sp):=by
 have:=length_le l
 simp only[Rows.uptoBulk]
 omega
theorem string_le {H:Type}(s:ByteArray):s.size≤Rows.uptoBulk (DataW.lit (H:=H) (.string s.data.toList)):=by
 have e:s.data.toList.length=s.size:=by rw[Array.length_toList];rfl
 simp only[Rows.uptoBulk,e]
 omega
end Jr
section
variable {H:Type}{enc:TypeId×Value→H}{W:World}{spare:Nat→Bool}{held:Bool}
theorem recs_bulk {fuel:Nat}{a:Option Addr}{cap:Nat}{l:List Rec}{x:DataW H×List MemPlace}(hf:DataW.trod enc Tryz.prog W 0 spare held fuel 31 [.slice a l.length cap]=some x)(hr:qz W (.slice a l.length cap) l):
 l.length≤Rows.uptoBulk x.1∧∀r∈l,r.owner.size≤Rows.uptoBulk x.1:=by
 rcases uT Tryz.underlying31 Tryz.underlying80 (by kernel_rfl) (by kernel_rfl) hf with⟨hcs,_⟩|⟨a',len,cap',m,D,Pl,hcs,hb,hl,hm,hmm,hx,hi⟩
 ·simp only[List.cons.injEq,and_true,Value.slice.injEq]at hcs
  have h0:l= []:=List.eq_nil_of_length_eq_zero hcs.2.1
  subst h0
  exact⟨Nat.zero_le _,fun r hr=>by simp at hr⟩
 ·simp only[List.cons.injEq,and_true,Value.slice.injEq]at hcs
  obtain⟨rfl,hlen,rfl⟩:=hcs
  have hnm:len≤m:=by rw[hmm];split <;> omega
  rw[hx]
  refine⟨?_,fun r hrm=>?_⟩
  ·have:=Jr.slice_len ((List.range len).map D) ((List.range (m-len)).map fun j=>D (len+j))
   rw[List.length_map,List.length_range]at this
   show l.length≤Rows.uptoBulk (DataW.slice ((List.range len).map D) ((List.range (m-len)).map fun j=>D (len+j)))
   omega
  ·obtain⟨k,hk,rfl⟩:=List.getElem_of_mem hrm
   obtain⟨ys,n,hD,_,_,hfs⟩:=hi k (by omega)
   obtain⟨v0,y0,c0,hy0,t0⟩:=hfs 0 _ rfl
   obtain⟨s,e0,hs,_⟩:=DataW.trod_string Tryz.underlying9 t0
   simp only[List.cons.injEq,and_true]at e0
   subst e0
   obtain⟨_,_,hv,_,hrr⟩:=hr
   simp only[Value.slice.injEq]at hv
   obtain⟨b,off,hbo,_,q0,_⟩:=hrr k hk
   rw[← hv.1]at hbo
   simp only[Option.some.injEq]at hbo
   subst hbo
   rw[Addr.add_lit]at c0
   have c0':W.cell? ⟨b,off+k*5,none⟩=some (.string s):=c0
   rw[q0]at c0'
   simp only[Option.some.injEq,Value.string.injEq]at c0'
   rw[c0']
   have h1:=Jr.string_le (H:=H) s
   have h2:DataW.lit (H:=H) (.string s.data.toList)∈ys.map (·.1):=List.mem_map.2 ⟨y0,List.mem_of_getElem? hy0,by rw[hs]⟩
   have h3:=Jr.agg_le h2
   rw[← hD]at h3
   have h4:D k∈(List.range len).map D:=List.mem_map.2 ⟨k,List.mem_range.2 (by omega),rfl⟩
   have h5:=Jr.slice_part (sp:=(List.range (m-len)).map fun j=>D (len+j)) h4
   show s.size≤Rows.uptoBulk (DataW.slice ((List.range len).map D) ((List.range (m-len)).map fun j=>D (len+j)))
   omega
end
end Go.Proofs.YtpcmilhjpmlbpaaGreatDoor
namespace Go.Proofs.YtpcmilhjpmlbpaaGreatDoor
open Go.RowKit Go.ChangeShapes Go.WideShapes Go.ChangeAt Go.Deep Go.Joins
structure MsgFitA (M:Msg)(q a u d:Value):Prop where
 nq:M.qs.length≤1048576
 na:M.an.length≤1048576
 nu:M.au.length≤1048576
 nd:M.ad.length≤1048576
 fq:yU q
 fa:yU a
 fu:yU u
 fd:yU d
 sq:∀y∈M.qs,(Lit.int .i64 y.typ).wf=true∧y.name.size≤1099511627776
 sa:∀y∈M.an,(Lit.int .i64 y.typ).wf=true∧y.owner.size≤1099511627776
 su:∀y∈M.au,(Lit.int .i64 y.typ).wf=true∧y.owner.size≤1099511627776
 sd:∀y∈M.ad,(Lit.int .i64 y.typ).wf=true∧y.owner.size≤1099511627776
def MsgsAt (w:World)(v:Value)(l:List Msg):Prop:=∃ao cap,v= .slice ao l.length cap∧l.length≤cap∧
 ∀k (hk:k<l.length),∃b off q a u d,ao=some ⟨b,off,none⟩∧b<w.heap.size∧(∀j x,(kK l[k].h q a u d)[j]? =some x→w.cell? ⟨b,off+k*14+j,none⟩=some x)∧MsgIn w l[k] q a u d∧MsgFitA l[k] q a u d
theorem MsgsAt.below {w w':World}{v:Value}{l:List Msg}(h:MsgsAt w v l)(hB:Below w.heap.size w w'):MsgsAt w' v l:=by
 obtain⟨ao,cap,h1,h2,h3⟩:=h
 refine⟨ao,cap,h1,h2,fun k hk=>?_⟩
 obtain⟨b,off,q,a,u,d,e,hb,hc,hi,hf⟩:=h3 k hk
 exact⟨b,off,q,a,u,d,e,Nat.lt_of_lt_of_le hb hB.size,fun j x hx=>(hB.cell (p:=⟨b,_,none⟩) hb).trans (hc j x hx),hi.below hB,hf⟩
section
variable {H:Type}{enc:TypeId×Value→H}{W:World}{spare:Nat→Bool}{held:Bool}
theorem trod_anyS {t e:TypeId}{fuel:Nat}{v:Value}{x:DataW H×List MemPlace}(ht:Tryz.prog.underlying t=some (.slice e))(h:DataW.trod enc Tryz.prog W 0 spare held fuel t [v]=some x):yU v:=by
 rcases open_slice ht h with⟨h0,_⟩|⟨a,len,cap,m,n,D,Pl,hcs,_⟩
 ·simp only[List.cons.injEq,and_true]at h0
  exact .inl h0
 ·simp only[List.cons.injEq,and_true]at hcs
  exact .inr ⟨a,len,cap,hcs⟩
end
end Go.Proofs.YtpcmilhjpmlbpaaGreatDoor
namespace Go.Proofs.YtpcmilhjpmlbpaaGreatDoor
open Go.RowKit Go.ChangeShapes Go.WideShapes Go.ChangeAt Go.Deep Go.Joins
section
variable {H:Type}{enc:TypeId×Value→H}{P:Program}{w:World}{base:Nat}{spare:Nat→Bool}{held:Bool}
end
section
variable {H:Type}{enc:TypeId×Value→H}{W:World}{spare:Nat→Bool}{held:Bool}
theorem open_lots {fuel:Nat}{v:Value}{x:DataW H×List MemPlace}(hf:DataW.trod enc Tryz.prog W 0 spare held fuel 22 [v]=some x)(hb:Rows.uptoBulk x.1≤1048576):
 ∃ao cap l,v= .slice ao (l:List tr.Zn).length cap∧l.length≤1048576∧JV W (.slice ao l.length cap) l:=by
 rcases uT Tryz.underlying22 Tryz.underlying42 (by kernel_rfl) (by kernel_rfl) hf with⟨hcs,_⟩|⟨ad,len,cap,m,D,Pl,hcs,hbb,hl,hm,hmm,hx,hi⟩
 ·simp only[List.cons.injEq,and_true]at hcs
  exact⟨none,0,[],hcs,by simp,⟨none,0,rfl,Nat.le_refl _,fun k hk=>absurd hk (Nat.not_lt_zero _)⟩⟩
 ·simp only[List.cons.injEq,and_true]at hcs
  have hnm:len≤m:=by rw[hmm];split <;> omega
  have hlb:len≤1048576:=by
   have h1:=Jr.slice_len ((List.range len).map D) ((List.range (m-len)).map fun j=>D (len+j))
   rw[List.length_map,List.length_range]at h1
   rw[hx]at hb
   exact Nat.le_trans h1 hb
  have hD:∀i,i<len→Rows.uptoBulk (D i)≤1048576:=fun i hi=>by
   have h1:Rows.uptoBulk (D i)≤Rows.uptoBulkAll ((List.range len).map D):=Jr.part_le (List.mem_map.2 ⟨i,List.mem_range.2 hi,rfl⟩)
   rw[hx]at hb
   simp only[Rows.uptoBulk]at hb
   omega
  obtain⟨l,h1,h2⟩:=list_of (P:=fun i (M:tr.Zn)=>∃rv,W.cell? (ad.add (i*2))=some (.string M.ap)∧W.cell? (ad.add (i*2+1))=some rv∧qz W rv M.l∧yU rv∧M.ap.size≤1099511627776∧(∀r∈M.l,(Lit.int .i64 r.typ).wf=true)∧∀r∈M.l,r.owner.size≤1099511627776) len (fun i hin=>by
   obtain⟨ys,k,hDi,_,_,hf⟩:=hi i (by omega)
   have hDb:=hD i hin
   rw[hDi]at hDb
   obtain⟨v0,y0,c0,g0,t0⟩:=hf 0 _ rfl
   obtain⟨v1,y1,c1,g1,t1⟩:=hf 1 _ rfl
   obtain⟨s,e0,hs,_⟩:=DataW.trod_string Tryz.underlying9 t0
   have fa:=trod_anyS Tryz.underlying31 t1
   have b0:Rows.uptoBulk y0.1≤1048576:=Nat.le_trans (Jr.agg_le (List.mem_map.2 ⟨y0,List.mem_of_getElem? g0,rfl⟩)) hDb
   have b1:Rows.uptoBulk y1.1≤1048576:=Nat.le_trans (Jr.agg_le (List.mem_map.2 ⟨y1,List.mem_of_getElem? g1,rfl⟩)) hDb
   obtain⟨a1,c1',l1,e1,_,r1,k1⟩:=open_recs t1
   simp only[List.cons.injEq,and_true]at e0
   subst e0 e1
   obtain⟨n1,z1⟩:=recs_bulk t1 r1
   have h1:=Jr.string_le (H:=H) s
   have h2:y0.1= .lit (.string s.data.toList):=congrArg Prod.fst hs
   rw[← h2]at h1
   exact⟨⟨s,l1⟩,_,c0,c1,r1,fa,by show s.size≤_;omega,k1,fun r hr=>by have:=z1 r hr;omega⟩)
  refine⟨some ad,cap,l,by rw[hcs,h1],by omega,⟨some ad,cap,rfl,by omega,fun k hk=>?_⟩⟩
  obtain⟨rv,c0,c1,hr⟩:=h2 k _ (List.getElem?_eq_getElem hk)
  obtain⟨b,off,spot⟩:=ad
  have hspot:spot=none:=by
   have hk0:0<l.length:=by omega
   obtain⟨_,hc0,_⟩:=h2 0 _ (List.getElem?_eq_getElem hk0)
   have h9:=World.cell?_spot hc0
   simpa[Addr.add] using h9
  subst hspot
  rw[Addr.add_lit]at c0 c1
  exact⟨b,off,rv,rfl,World.block_lt_of_cell? _ _ c0,c0,by rw[Nat.add_assoc];exact c1,hr⟩
end
end Go.Proofs.YtpcmilhjpmlbpaaGreatDoor
namespace Go.Proofs.YtpcmilhjpmlbpaaGreatDoor
open Go.RowKit Go.ChangeShapes Go.WideShapes Go.ChangeAt
namespace ha
theorem et:Tryz.prog.globalNamed "errors.errorType" =some 0:=by kernel_rfl
theorem rt:(Tryz.prog.cutTypes.find? (·.1 == "internal/reflectlite.rtype")).map (·.2)=some 191:=by kernel_rfl
theorem oneRow:((List.range 295).filter fun t=>Tryz.prog.rowNamed t [101,114,114,111,114])= [99]:=by kernel_rfl
theorem size:Tryz.prog.types.size=295:=by kernel_rfl
end ha
theorem errT_of_laid {W:World}(h:laidMetH Tryz.prog [("errors.errorType",Rows.laid_errors_errorType)] W):ErrT W:=by
 have h':laidMet Tryz.prog [] W∧handlesMet Tryz.prog [("errors.errorType",Rows.laid_errors_errorType)] W:=h
 obtain⟨name,u,ty,e1,e2,e3,e4,e5⟩:=h'.2 _ (List.mem_singleton.2 rfl)
 have en:name= [101,114,114,111,114]:=(Option.some.inj e1).symm
 subst en
 obtain rfl:=Option.some.inj (ha.rt.symm.trans e2)
 have hm:ty∈(List.range 295).filter fun t=>Tryz.prog.rowNamed t [101,114,114,111,114]:=List.mem_filter.2 ⟨List.mem_range.2 (by rw[← ha.size];exact e3),e4⟩
 rw[ha.oneRow]at hm
 obtain rfl:=List.mem_singleton.1 hm
 have hh:typeHandle Tryz.prog 99= .pointer (some ⟨2,99,none⟩):=by kernel_rfl
 rw[hh]at e5
 unfold ErrT
 simpa using World.var?_cell ha.et e5 0
noncomputable def laidWorld (os:Os):World:=
 { World.holding Tryz.prog os ⟨#[],#[],[]⟩ with heap:=(World.holding Tryz.prog os ⟨#[],#[],[]⟩).heap.modify 0 fun
  | .cells _ t frozen=>.cells #[.iface 191 (.agg #[.pointer (some ⟨2,99,none⟩)])] t frozen
  | o=>o}
theorem laid_met (os:Os)(args:Array Value):laidMetH Tryz.prog [("errors.errorType",Rows.laid_errors_errorType)] ((laidWorld os).forCall (fun _ _=>0) ⟨#[],args,[]⟩).memory:=
 laidMetH_of_parts (laidMet_nil _ _) (by kernel_rfl)
theorem wf_range {i:Int}(h:(Lit.int .i64 i).wf=true):-9223372036854775808≤i∧i≤9223372036854775807:=by
 simp only[Lit.wf,Bool.and_eq_true,decide_eq_true_eq]at h
 have e1:IntKind.i64.min= -9223372036854775808:=rfl
 have e2:IntKind.i64.max=9223372036854775807:=rfl
 rw[e1,e2]at h
 exact h
end Go.Proofs.YtpcmilhjpmlbpaaGreatDoor
