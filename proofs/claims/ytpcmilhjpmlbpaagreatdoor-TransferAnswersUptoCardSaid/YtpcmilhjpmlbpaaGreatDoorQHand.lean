import Derived.Test.YtpcmilhjpmlbpaaGreatDoorRows
import Derived.Test.YtpcmilhjpmlbpaaGreatDoorQCpQ
import Derived.Deep.Slices
import Derived.Deep.Fields
import Derived.ChangeSame
import Derived.ProofKit
import Derived.OpenShut
import Derived.Lib.SmallJoins
import Derived.JoinedCond
import Derived.LaidHandle
import Derived.Stop.Joined
import Derived.LaidLaws
set_option maxRecDepth 100000
set_option maxHeartbeats 16000000
namespace Go.Proofs.YtpcmilhjpmlbpaaGreatDoor
open Go.ChangeShapes Go.WideShapes Go.Deep Go.RowKit
section
variable {H:Type}{enc:TypeId×Value→H}{P:Program}{w:World}{base:Nat}{spare:Nat→Bool}{held:Bool}
theorem jL {t e:TypeId}{fs:Array Field}{fuel:Nat}{cs:List Value}{x:DataW H×List MemPlace}(ht:P.underlying t=some (.slice e))(he:P.underlying e=some (.struct fs))
 (hone:oneCellFields P fs=true) (hC:P.cellsOf e=fs.size) (h:DataW.trod enc P w base spare held fuel t cs=some x):
 (cs= [.slice none 0 0]∧x=(.nil,[]))∨
 ∃(a:Addr) (len cap m:Nat) (D:Nat→DataW H) (Pl:Nat→List MemPlace),cs= [.slice (some a) len cap]∧base≤a.block∧len≤cap∧cap≤maxLen∧m=(if spare a.block then cap else len)∧
  x=(.slice ((List.range len).map D) ((List.range (m-len)).map fun j=>D (len+j)),MemPlace.row a (m*fs.size) ++ (List.range m).flatMap Pl)∧
  ∀i,i<m→∃(ys:List (DataW H×List MemPlace)) (n:Nat),D i= .agg (ys.map (·.1))∧Pl i=ys.flatMap (·.2)∧ys.length=fs.size∧
   ∀(j:Nat) (f:Field),fs[j]? =some f→∃(v:Value) (y:DataW H×List MemPlace),w.cell? (a.add (i*fs.size+j))=some v∧ys[j]? =some y∧DataW.trod enc P w base spare held n f.type [v]=some y:=by
 rcases open_slice ht h with h0 | ⟨a,len,cap,m,n,D,Pl,hcs,hb,hl,hm,hmm,hx,hi⟩
 ·exact .inl h0
 ·refine .inr ⟨a,len,cap,m,D,Pl,hcs,hb,hl,hm,hmm,by rw[hC]at hx;exact hx,fun i him=>?_⟩;obtain⟨cs',hc,ht'⟩:=hi i him;rw[hC]at hc;obtain⟨ys,n',hn',hy,hlen,hyl,hf⟩:=DataW.trod_struct he ht';obtain⟨_,hcl,hat⟩:=World.cells?_some hc;simp only[Prod.mk.injEq]at hy;refine⟨ys,n',hy.1,hy.2,hyl,fun j f hj=>?_⟩;obtain⟨ho,hk⟩:=hone_of hone j f hj;have hjl:j<fs.size:=(Array.getElem?_eq_some_iff.1 hj).1;have hcell:=hat j hjl;have hv:cs'[j]? =some (cs'[j]'(by omega)):=List.getElem?_eq_getElem (by omega);have h1:=hf j f hj;rw[ho,hk]at h1;have hone':(cs'.drop j).take 1= [cs'[j]'(by omega)]:=by
   rw[List.drop_eq_getElem_cons (by omega)];rfl
  rw[hone']at h1;have hys:ys[j]? =some (ys[j]'(by omega)):=List.getElem?_eq_getElem (by omega);refine⟨_,_,?_,hys,h1.trans hys⟩;rw[← Go.Deep.add_add,hcell,hv]
end
theorem XJ {α:Type}{P:Nat→α→Prop}:∀n:Nat,(∀i,i<n→∃x,P i x)→∃l:List α,l.length=n∧∀(i:Nat) (x:α),l[i]? =some x→P i x:=by
 intro n
 induction n with
 | zero=>intro _;exact⟨[],rfl,fun i x h=>by simp at h⟩
 | succ n ih=>
   intro h;obtain⟨l,hl,hp⟩:=ih (fun i hi=>h i (by omega));obtain⟨x,hx⟩:=h n (by omega);refine⟨l ++ [x],by simp[hl],fun i y hy=>?_⟩;rcases Nat.lt_or_ge i n with hi | hi
   ·rw[List.getElem?_append_left (by omega)]at hy;exact hp i y hy
   ·rw[List.getElem?_append_right (by omega)]at hy;have:i-l.length=0:=by
     rcases Nat.eq_zero_or_pos (i-l.length) with h0 | h0
     ·exact h0
     ·obtain⟨j,hj⟩:∃j,i-l.length=j+1:=⟨i-l.length-1,by omega⟩;rw[hj]at hy;simp at hy
    rw[this]at hy;simp only[List.getElem?_cons_zero,Option.some.injEq]at hy;subst hy;obtain rfl:i=n:=by omega
    exact hx
open Go.ChangeAt
theorem own:ownKnob Tryz.prog.godebug=none:=by kernel_rfl
section
variable {H:Type}{enc:TypeId×Value→H}{W:World}{spare:Nat→Bool}{held:Bool}
theorem JP {fuel:Nat}{v:Value}{x:DataW H×List MemPlace}(hf:DataW.trod enc Tryz.prog W 0 spare held fuel 31 [v]=some x):
 ∃a cap l,v= .slice a (l:List Rec).length cap∧l.length≤9223372036854775807∧qm W (.slice a l.length cap) l∧∀r∈l,(Lit.int .i64 r.typ).wf=true:=by
 rcases jL Tryz.underlying31 Tryz.underlying80 (by kernel_rfl) (by kernel_rfl) hf with⟨hcs,_⟩|⟨a,len,cap,m,D,Pl,hcs,hb,hl,hm,hmm,hx,hi⟩
 ·simp only[List.cons.injEq,and_true]at hcs;exact⟨none,0,[],hcs,by simp,⟨none,0,rfl,Nat.le_refl _,fun k hk=>absurd hk (Nat.not_lt_zero _)⟩,fun r hr=>by simp at hr⟩
 ·simp only[List.cons.injEq,and_true]at hcs;have hnm:len≤m:=by rw[hmm];split <;> omega
  obtain⟨cs,h1,h2⟩:=XJ (P:=fun i (r:Rec)=>W.cell? (a.add (i*5))=some (.string r.owner)∧W.cell? (a.add (i*5+1))=some (.int .i64 r.typ)∧W.cell? (a.add (i*5+2))=some (.int .i64 r.cls)∧
   W.cell? (a.add (i*5+3))=some (.int .i64 r.ttl)∧W.cell? (a.add (i*5+4))=some (.string r.data)∧(Lit.int .i64 r.typ).wf=true) len (fun i hin=>by
   obtain⟨ys,k,_,_,_,hf⟩:=hi i (by omega);obtain⟨v0,y0,c0,_,t0⟩:=hf 0 _ rfl;obtain⟨v1,y1,c1,_,t1⟩:=hf 1 _ rfl;obtain⟨v2,y2,c2,_,t2⟩:=hf 2 _ rfl;obtain⟨v3,y3,c3,_,t3⟩:=hf 3 _ rfl;obtain⟨v4,y4,c4,_,t4⟩:=hf 4 _ rfl;obtain⟨s,e0,_⟩:=DataW.trod_string Tryz.underlying9 t0;obtain⟨q1,e1,_,wq1⟩:=DataW.trod_int Tryz.underlying3 t1;obtain⟨q2,e2,_,_⟩:=DataW.trod_int Tryz.underlying3 t2;obtain⟨q3,e3,_,_⟩:=DataW.trod_int Tryz.underlying3 t3;obtain⟨s4,e4,_⟩:=DataW.trod_string Tryz.underlying9 t4;simp only[List.cons.injEq,and_true]at e0 e1 e2 e3 e4;subst e0 e1 e2 e3 e4;exact⟨⟨s,q1,q2,q3,s4⟩,c0,c1,c2,c3,c4,wq1⟩)
  refine⟨some a,cap,cs,by rw[hcs,h1],?_,⟨some a,cap,rfl,by omega,fun k hk=>?_⟩,fun r hr=>?_⟩
  ·unfold maxLen at hm;omega
  ·obtain⟨c0,c1,c2,c3,c4,_⟩:=h2 k _ (List.getElem?_eq_getElem hk);obtain⟨b,off,spot⟩:=a;have hspot:spot=none:=by
    have hk0:0<cs.length:=by omega
    have:=World.cell?_spot (h2 0 _ (List.getElem?_eq_getElem hk0)).1
    simpa[Addr.add] using this
   subst hspot;rw[Addr.add_lit]at c0 c1 c2 c3 c4;exact⟨b,off,rfl,World.block_lt_of_cell? _ _ c0,c0,by rw[Nat.add_assoc];exact c1,by rw[Nat.add_assoc];exact c2,by rw[Nat.add_assoc];exact c3,by rw[Nat.add_assoc];exact c4⟩
  ·obtain⟨k,hk,rfl⟩:=List.getElem_of_mem hr;exact(h2 k _ (List.getElem?_eq_getElem hk)).2.2.2.2.2
end
namespace vS
theorem one_le {H:Type}(d:DataW H):1≤Rows.uptoBulk d:=by
 cases d with
 | lit l=>cases l <;> simp[Rows.uptoBulk]
 | nil=>simp[Rows.uptoBulk]
 | ptr d=>simp[Rows.uptoBulk]
 | slice elems spare=>simp[Rows.uptoBulk]
 | agg parts=>simp[Rows.uptoBulk]
 | iface t d=>simp[Rows.uptoBulk]
 | map entries=>simp[Rows.uptoBulk]
 | held h=>simp[Rows.uptoBulk]
theorem XH {H:Type}{d:DataW H}{l:List (DataW H)}(h:d∈l):Rows.uptoBulk d≤Rows.uptoBulkAll l:=by
 induction l with
 | nil=>cases h
 | cons x r ih=>
   simp only[Rows.uptoBulkAll]
   cases List.mem_cons.1 h with
   | inl e=>subst e;omega
   | inr e=>have:=ih e;omega
theorem length_le {H:Type}(l:List (DataW H)):l.length≤Rows.uptoBulkAll l:=by
 induction l with
 | nil=>simp[Rows.uptoBulkAll]
 | cons x r ih=>have:=one_le x;simp only[Rows.uptoBulkAll,List.length_cons];omega
theorem Jz {H:Type}{d:DataW H}{l:List (DataW H)}(h:d∈l):Rows.uptoBulk d≤Rows.uptoBulk (.agg l):=by
 have:=XH h;simp only[Rows.uptoBulk];omega
theorem XV {H:Type}{d:DataW H}{l sp:List (DataW H)}(h:d∈l):Rows.uptoBulk d≤Rows.uptoBulk (.slice l sp):=by
 have:=XH h;simp only[Rows.uptoBulk];omega
theorem JK {H:Type}(l sp:List (DataW H)):l.length≤Rows.uptoBulk (.slice l sp):=by
 have:=length_le l;simp only[Rows.uptoBulk];omega
theorem UZ {H:Type}(s:ByteArray):s.size≤Rows.uptoBulk (DataW.lit (H:=H) (.string s.data.toList)):=by
 have e:s.data.toList.length=s.size:=by rw[Array.length_toList];rfl
 simp only[Rows.uptoBulk,e];omega
end vS
section
variable {H:Type}{enc:TypeId×Value→H}{W:World}{spare:Nat→Bool}{held:Bool}
theorem JO {fuel:Nat}{a:Option Addr}{cap:Nat}{l:List Rec}{x:DataW H×List MemPlace}(hf:DataW.trod enc Tryz.prog W 0 spare held fuel 31 [.slice a l.length cap]=some x)(hr:qm W (.slice a l.length cap) l):
 l.length≤Rows.uptoBulk x.1∧∀r∈l,r.owner.size≤Rows.uptoBulk x.1:=by
 rcases jL Tryz.underlying31 Tryz.underlying80 (by kernel_rfl) (by kernel_rfl) hf with⟨hcs,_⟩|⟨a',len,cap',m,D,Pl,hcs,hb,hl,hm,hmm,hx,hi⟩
 ·simp only[List.cons.injEq,and_true,Value.slice.injEq]at hcs;have h0:l= []:=List.eq_nil_of_length_eq_zero hcs.2.1;subst h0;exact⟨Nat.zero_le _,fun r hr=>by simp at hr⟩
 ·simp only[List.cons.injEq,and_true,Value.slice.injEq]at hcs;obtain⟨rfl,hlen,rfl⟩:=hcs;have hnm:len≤m:=by rw[hmm];split <;> omega
  rw[hx];refine⟨?_,fun r hrm=>?_⟩
  ·have:=vS.JK ((List.range len).map D) ((List.range (m-len)).map fun j=>D (len+j));rw[List.length_map,List.length_range]at this;show l.length≤Rows.uptoBulk (DataW.slice ((List.range len).map D) ((List.range (m-len)).map fun j=>D (len+j)));omega
  ·obtain⟨k,hk,rfl⟩:=List.getElem_of_mem hrm;obtain⟨ys,n,hD,_,_,hfs⟩:=hi k (by omega);obtain⟨v0,y0,c0,hy0,t0⟩:=hfs 0 _ rfl;obtain⟨s,e0,hs,_⟩:=DataW.trod_string Tryz.underlying9 t0;simp only[List.cons.injEq,and_true]at e0;subst e0;obtain⟨_,_,hv,_,hrr⟩:=hr;simp only[Value.slice.injEq]at hv;obtain⟨b,off,hbo,_,q0,_⟩:=hrr k hk;rw[← hv.1]at hbo;simp only[Option.some.injEq]at hbo;subst hbo;rw[Addr.add_lit]at c0;have c0':W.cell? ⟨b,off+k*5,none⟩=some (.string s):=c0;rw[q0]at c0';simp only[Option.some.injEq,Value.string.injEq]at c0';rw[c0'];have h1:=vS.UZ (H:=H) s;have h2:DataW.lit (H:=H) (.string s.data.toList)∈ys.map (·.1):=List.mem_map.2 ⟨y0,List.mem_of_getElem? hy0,by rw[hs]⟩;have h3:=vS.Jz h2;rw[← hD]at h3;have h4:D k∈(List.range len).map D:=List.mem_map.2 ⟨k,List.mem_range.2 (by omega),rfl⟩;have h5:=vS.XV (sp:=(List.range (m-len)).map fun j=>D (len+j)) h4;show s.size≤Rows.uptoBulk (DataW.slice ((List.range len).map D) ((List.range (m-len)).map fun j=>D (len+j)));omega
theorem open_asks {fuel:Nat}{v:Value}{x:DataW H×List MemPlace}(hf:DataW.trod enc Tryz.prog W 0 spare held fuel 30 [v]=some x):
 ∃a cap l,v= .slice a (l:List Qn).length cap∧l.length≤Rows.uptoBulk x.1∧yu W (.slice a l.length cap) l∧∀r∈l,(Lit.int .i64 r.typ).wf=true∧r.name.size≤Rows.uptoBulk x.1:=by
 rcases jL Tryz.underlying30 Tryz.underlying78 (by kernel_rfl) (by kernel_rfl) hf with⟨hcs,_⟩|⟨a,len,cap,m,D,Pl,hcs,hb,hl,hm,hmm,hx,hi⟩
 ·simp only[List.cons.injEq,and_true]at hcs;exact⟨none,0,[],hcs,Nat.zero_le _,⟨none,0,rfl,Nat.le_refl _,fun k hk=>absurd hk (Nat.not_lt_zero _)⟩,fun r hr=>by simp at hr⟩
 ·simp only[List.cons.injEq,and_true]at hcs;have hnm:len≤m:=by rw[hmm];split <;> omega
  obtain⟨cs,h1,h2⟩:=XJ (P:=fun i (r:Qn)=>W.cell? (a.add (i*3))=some (.string r.name)∧W.cell? (a.add (i*3+1))=some (.int .i64 r.typ)∧W.cell? (a.add (i*3+2))=some (.int .i64 r.cls)∧
   (Lit.int .i64 r.typ).wf=true∧r.name.size≤Rows.uptoBulk (D i)) len (fun i hin=>by
   obtain⟨ys,k,hD,_,_,hf⟩:=hi i (by omega);obtain⟨v0,y0,c0,hy0,t0⟩:=hf 0 _ rfl;obtain⟨v1,y1,c1,_,t1⟩:=hf 1 _ rfl;obtain⟨v2,y2,c2,_,t2⟩:=hf 2 _ rfl;obtain⟨s,e0,hs,_⟩:=DataW.trod_string Tryz.underlying9 t0;obtain⟨q1,e1,_,wq1⟩:=DataW.trod_int Tryz.underlying3 t1;obtain⟨q2,e2,_,_⟩:=DataW.trod_int Tryz.underlying3 t2;simp only[List.cons.injEq,and_true]at e0 e1 e2;subst e0 e1 e2;have h1:=vS.UZ (H:=H) s;have h2:DataW.lit (H:=H) (.string s.data.toList)∈ys.map (·.1):=List.mem_map.2 ⟨y0,List.mem_of_getElem? hy0,by rw[hs]⟩;have h3:=vS.Jz h2;rw[← hD]at h3;exact⟨⟨s,q1,q2⟩,c0,c1,c2,wq1,Nat.le_trans h1 h3⟩)
  refine⟨some a,cap,cs,by rw[hcs,h1],?_,⟨some a,cap,rfl,by omega,fun k hk=>?_⟩,fun r hr=>?_⟩
  ·rw[hx];have:=vS.JK ((List.range len).map D) ((List.range (m-len)).map fun j=>D (len+j));rw[List.length_map,List.length_range]at this;show cs.length≤Rows.uptoBulk (DataW.slice ((List.range len).map D) ((List.range (m-len)).map fun j=>D (len+j)));omega
  ·obtain⟨c0,c1,c2,_⟩:=h2 k _ (List.getElem?_eq_getElem hk);obtain⟨b,off,spot⟩:=a;have hspot:spot=none:=by
    have hk0:0<cs.length:=by omega
    have:=World.cell?_spot (h2 0 _ (List.getElem?_eq_getElem hk0)).1
    simpa[Addr.add] using this
   subst hspot;rw[Addr.add_lit]at c0 c1 c2;exact⟨b,off,rfl,World.block_lt_of_cell? _ _ c0,c0,by rw[Nat.add_assoc];exact c1,by rw[Nat.add_assoc];exact c2⟩
  ·obtain⟨k,hk,rfl⟩:=List.getElem_of_mem hr;obtain⟨_,_,_,hw,hz⟩:=h2 k _ (List.getElem?_eq_getElem hk);refine⟨hw,?_⟩;have h4:D k∈(List.range len).map D:=List.mem_map.2 ⟨k,List.mem_range.2 (by omega),rfl⟩;have h5:=vS.XV (sp:=(List.range (m-len)).map fun j=>D (len+j)) h4;rw[hx];show cs[k].name.size≤Rows.uptoBulk (DataW.slice ((List.range len).map D) ((List.range (m-len)).map fun j=>D (len+j)));omega
end
open Go.Joins
structure MsgFitA (M:Msg)(q a u d:Value):Prop where
 nq:M.qs.length≤1048576
 na:M.an.length≤1048576
 nu:M.au.length≤1048576
 nd:M.ad.length≤1048576
 fq:yt q
 fa:yt a
 fu:yt u
 fd:yt d
 sq:∀y∈M.qs,(Lit.int .i64 y.typ).wf=true∧y.name.size≤1099511627776
 sa:∀y∈M.an,(Lit.int .i64 y.typ).wf=true∧y.owner.size≤1099511627776
 su:∀y∈M.au,(Lit.int .i64 y.typ).wf=true∧y.owner.size≤1099511627776
 sd:∀y∈M.ad,(Lit.int .i64 y.typ).wf=true∧y.owner.size≤1099511627776
def MsgsAt (w:World)(v:Value)(l:List Msg):Prop:=∃ao cap,v= .slice ao l.length cap∧l.length≤cap∧
 ∀k (hk:k<l.length),∃b off q a u d,ao=some ⟨b,off,none⟩∧b<w.heap.size∧(∀j x,(yG l[k].h q a u d)[j]? =some x→w.cell? ⟨b,off+k*14+j,none⟩=some x)∧MsgIn w l[k] q a u d∧MsgFitA l[k] q a u d
theorem MsgsAt.below {w w':World}{v:Value}{l:List Msg}(h:MsgsAt w v l)(hB:Below w.heap.size w w'):MsgsAt w' v l:=by
 obtain⟨ao,cap,h1,h2,h3⟩:=h;refine⟨ao,cap,h1,h2,fun k hk=>?_⟩;obtain⟨b,off,q,a,u,d,e,hb,hc,hi,hf⟩:=h3 k hk;exact⟨b,off,q,a,u,d,e,Nat.lt_of_lt_of_le hb hB.size,fun j x hx=>(hB.cell (p:=⟨b,_,none⟩) hb).trans (hc j x hx),hi.below hB,hf⟩
section
variable {H:Type}{enc:TypeId×Value→H}{W:World}{spare:Nat→Bool}{held:Bool}
theorem Z0 {t e:TypeId}{fuel:Nat}{v:Value}{x:DataW H×List MemPlace}(ht:Tryz.prog.underlying t=some (.slice e))(h:DataW.trod enc Tryz.prog W 0 spare held fuel t [v]=some x):yt v:=by
 rcases open_slice ht h with⟨h0,_⟩|⟨a,len,cap,m,n,D,Pl,hcs,_⟩
 ·simp only[List.cons.injEq,and_true]at h0;exact .inl h0
 ·simp only[List.cons.injEq,and_true]at hcs;exact .inr ⟨a,len,cap,hcs⟩
theorem open_msgs {fuel:Nat}{v:Value}{x:DataW H×List MemPlace}(hf:DataW.trod enc Tryz.prog W 0 spare held fuel 23 [v]=some x)(hb:Rows.uptoBulk x.1≤1048576):
 ∃ao cap l,v= .slice ao (l:List Msg).length cap∧l.length≤1048576∧MsgsAt W (.slice ao l.length cap) l:=by
 rcases jL Tryz.underlying23 Tryz.underlying33 (by kernel_rfl) (by kernel_rfl) hf with⟨hcs,_⟩|⟨ad,len,cap,m,D,Pl,hcs,hbb,hl,hm,hmm,hx,hi⟩
 ·simp only[List.cons.injEq,and_true]at hcs;exact⟨none,0,[],hcs,by simp,⟨none,0,rfl,Nat.le_refl _,fun k hk=>absurd hk (Nat.not_lt_zero _)⟩⟩
 ·simp only[List.cons.injEq,and_true]at hcs;have hnm:len≤m:=by rw[hmm];split <;> omega
  have hlb:len≤1048576:=by
   have h1:=vS.JK ((List.range len).map D) ((List.range (m-len)).map fun j=>D (len+j));rw[List.length_map,List.length_range]at h1;rw[hx]at hb;exact Nat.le_trans h1 hb
  have hD:∀i,i<len→Rows.uptoBulk (D i)≤1048576:=fun i hi=>by
   have h1:Rows.uptoBulk (D i)≤Rows.uptoBulkAll ((List.range len).map D):=vS.XH (List.mem_map.2 ⟨i,List.mem_range.2 hi,rfl⟩);rw[hx]at hb;simp only[Rows.uptoBulk]at hb;omega
  obtain⟨l,h1,h2⟩:=XJ (P:=fun i (M:Msg)=>∃q a u d,(∀j x,(yG M.h q a u d)[j]? =some x→W.cell? (ad.add (i*14+j))=some x)∧MsgIn W M q a u d∧MsgFitA M q a u d) len (fun i hin=>by
   obtain⟨ys,k,hDi,_,_,hf⟩:=hi i (by omega);have hDb:=hD i hin;rw[hDi]at hDb;obtain⟨v0,y0,c0,g0,t0⟩:=hf 0 _ rfl;obtain⟨v1,y1,c1,g1,t1⟩:=hf 1 _ rfl;obtain⟨v2,y2,c2,g2,t2⟩:=hf 2 _ rfl;obtain⟨v3,y3,c3,g3,t3⟩:=hf 3 _ rfl;obtain⟨v4,y4,c4,g4,t4⟩:=hf 4 _ rfl;obtain⟨v5,y5,c5,g5,t5⟩:=hf 5 _ rfl;obtain⟨v6,y6,c6,g6,t6⟩:=hf 6 _ rfl;obtain⟨v7,y7,c7,g7,t7⟩:=hf 7 _ rfl;obtain⟨v8,y8,c8,g8,t8⟩:=hf 8 _ rfl;obtain⟨v9,y9,c9,g9,t9⟩:=hf 9 _ rfl;obtain⟨v10,y10,c10,g10,t10⟩:=hf 10 _ rfl;obtain⟨v11,y11,c11,g11,t11⟩:=hf 11 _ rfl;obtain⟨v12,y12,c12,g12,t12⟩:=hf 12 _ rfl;obtain⟨v13,y13,c13,g13,t13⟩:=hf 13 _ rfl;obtain⟨i0,e0,_,_⟩:=DataW.trod_int Tryz.underlying3 t0;obtain⟨i1,e1,_⟩:=DataW.trod_bool Tryz.underlying4 t1;obtain⟨i2,e2,_,_⟩:=DataW.trod_int Tryz.underlying3 t2;obtain⟨i3,e3,_⟩:=DataW.trod_bool Tryz.underlying4 t3;obtain⟨i4,e4,_⟩:=DataW.trod_bool Tryz.underlying4 t4;obtain⟨i5,e5,_⟩:=DataW.trod_bool Tryz.underlying4 t5;obtain⟨i6,e6,_⟩:=DataW.trod_bool Tryz.underlying4 t6;obtain⟨i7,e7,_⟩:=DataW.trod_bool Tryz.underlying4 t7;obtain⟨i8,e8,_⟩:=DataW.trod_bool Tryz.underlying4 t8;obtain⟨i9,e9,_,_⟩:=DataW.trod_int Tryz.underlying3 t9;have fa10:=Z0 Tryz.underlying30 t10;have b10:Rows.uptoBulk y10.1≤1048576:=Nat.le_trans (vS.Jz (List.mem_map.2 ⟨y10,List.mem_of_getElem? g10,rfl⟩)) hDb;have fa11:=Z0 Tryz.underlying31 t11;have b11:Rows.uptoBulk y11.1≤1048576:=Nat.le_trans (vS.Jz (List.mem_map.2 ⟨y11,List.mem_of_getElem? g11,rfl⟩)) hDb;have fa12:=Z0 Tryz.underlying31 t12;have b12:Rows.uptoBulk y12.1≤1048576:=Nat.le_trans (vS.Jz (List.mem_map.2 ⟨y12,List.mem_of_getElem? g12,rfl⟩)) hDb;have fa13:=Z0 Tryz.underlying31 t13;have b13:Rows.uptoBulk y13.1≤1048576:=Nat.le_trans (vS.Jz (List.mem_map.2 ⟨y13,List.mem_of_getElem? g13,rfl⟩)) hDb;obtain⟨a10,c10',qs,e10,n10,r10,k10⟩:=open_asks t10;obtain⟨a11,c11',l11,e11,_,r11,k11⟩:=JP t11;obtain⟨a12,c12',l12,e12,_,r12,k12⟩:=JP t12;obtain⟨a13,c13',l13,e13,_,r13,k13⟩:=JP t13;simp only[List.cons.injEq,and_true]at e0 e1 e2 e3 e4 e5 e6 e7 e8 e9;subst e0 e1 e2 e3 e4 e5 e6 e7 e8 e9 e10 e11 e12 e13;obtain⟨n11,z11⟩:=JO t11 r11;obtain⟨n12,z12⟩:=JO t12 r12;obtain⟨n13,z13⟩:=JO t13 r13;refine⟨⟨⟨i0,i1,i2,i3,i4,i5,i6,i7,i8,i9⟩,qs,l11,l12,l13⟩,_,_,_,_,?_,⟨r10,r11,r12,r13⟩,⟨Nat.le_trans n10 b10,Nat.le_trans n11 b11,Nat.le_trans n12 b12,Nat.le_trans n13 b13,fa10,fa11,fa12,fa13,fun y hy=>⟨(k10 y hy).1,by have:=(k10 y hy).2;omega⟩,fun y hy=>⟨k11 y hy,by have:=z11 y hy;omega⟩,fun y hy=>⟨k12 y hy,by have:=z12 y hy;omega⟩,fun y hy=>⟨k13 y hy,by have:=z13 y hy;omega⟩⟩⟩;intro j x hx
   match j,hx with
   | 0,hx=>obtain rfl:=Option.some.inj hx;exact c0
   | 1,hx=>obtain rfl:=Option.some.inj hx;exact c1
   | 2,hx=>obtain rfl:=Option.some.inj hx;exact c2
   | 3,hx=>obtain rfl:=Option.some.inj hx;exact c3
   | 4,hx=>obtain rfl:=Option.some.inj hx;exact c4
   | 5,hx=>obtain rfl:=Option.some.inj hx;exact c5
   | 6,hx=>obtain rfl:=Option.some.inj hx;exact c6
   | 7,hx=>obtain rfl:=Option.some.inj hx;exact c7
   | 8,hx=>obtain rfl:=Option.some.inj hx;exact c8
   | 9,hx=>obtain rfl:=Option.some.inj hx;exact c9
   | 10,hx=>obtain rfl:=Option.some.inj hx;exact c10
   | 11,hx=>obtain rfl:=Option.some.inj hx;exact c11
   | 12,hx=>obtain rfl:=Option.some.inj hx;exact c12
   | 13,hx=>obtain rfl:=Option.some.inj hx;exact c13
   | j+14,hx=>cases hx)
  refine⟨some ad,cap,l,by rw[hcs,h1],by omega,⟨some ad,cap,rfl,by omega,fun k hk=>?_⟩⟩;obtain⟨q,a,u,d,hc,hin,hfit⟩:=h2 k _ (List.getElem?_eq_getElem hk);obtain⟨b,off,spot⟩:=ad;have c0:=hc 0 _ rfl;have hspot:spot=none:=by
   have hk0:0<l.length:=by omega
   obtain⟨_,_,_,_,hc0,_,_⟩:=h2 0 _ (List.getElem?_eq_getElem hk0);have h9:=World.cell?_spot (hc0 0 _ rfl)
   simpa[Addr.add] using h9
  subst hspot;refine⟨b,off,q,a,u,d,rfl,World.block_lt_of_cell? _ _ (by rw[Addr.add_lit]at c0;exact c0),fun j x hx=>?_,hin,hfit⟩;have:=hc j x hx;rw[Addr.add_lit]at this;rw[Nat.add_assoc];exact this
end
end Go.Proofs.YtpcmilhjpmlbpaaGreatDoor
namespace Go.Proofs.YtpcmilhjpmlbpaaGreatDoor
open Go.RowKit Go.Shelf nm od
theorem own_msg {base:Nat}{w:World}{v:Value}{h:Hd}{P:List (Value×Value)}(ho:w.ownsRow base 33 14 v P.length (uN h P)){k:Nat}(hk:k<P.length):∃g off cap,v= .slice (some ⟨g,off,none⟩) P.length cap∧base≤g∧g<w.heap.size∧
 (w.cell? ⟨g,off+k*14,none⟩=some (.int .i64 h.id)∧w.cell? ⟨g,off+k*14+1,none⟩=some (.bool h.Um)∧w.cell? ⟨g,off+k*14+2,none⟩=some (.int .i64 h.op)∧w.cell? ⟨g,off+k*14+3,none⟩=some (.bool h.aa)∧w.cell? ⟨g,off+k*14+4,none⟩=some (.bool h.tc)∧w.cell? ⟨g,off+k*14+5,none⟩=some (.bool h.rd)∧w.cell? ⟨g,off+k*14+6,none⟩=some (.bool h.ra)∧w.cell? ⟨g,off+k*14+7,none⟩=some (.bool h.ad)∧w.cell? ⟨g,off+k*14+8,none⟩=some (.bool h.cd)∧w.cell? ⟨g,off+k*14+9,none⟩=some (.int .i64 h.jq)∧
  w.cell? ⟨g,off+k*14+10,none⟩=some P[k].1∧w.cell? ⟨g,off+k*14+11,none⟩=some P[k].2∧w.cell? ⟨g,off+k*14+12,none⟩=some (.slice none 0 0)∧w.cell? ⟨g,off+k*14+13,none⟩=some (.slice none 0 0)):=by
 have h2:=ho.2;rcases h2 with⟨_,h1⟩|⟨g,cap,cur,hv,hb,hg,rest⟩
 ·omega
 ·have hcell:∀(j:Nat) (x:Value),(yG h P[k].1 P[k].2 (.slice none 0 0) (.slice none 0 0))[j]? =some x→w.cell? ⟨g,0+k*14+j,none⟩=some x:=fun j x hx=>by
   have h3:=ho.cells (g:=g) (by rw[hv];rfl) (k*14+j) x (Vl h P k hk j x hx);rw[Addr.add_lit,Nat.zero_add]at h3;rw[Nat.zero_add];exact h3
  exact⟨g,0,cap,hv,hb,(Array.getElem?_eq_some_iff.1 hg).1,hcell 0 _ rfl,hcell 1 _ rfl,hcell 2 _ rfl,hcell 3 _ rfl,hcell 4 _ rfl,hcell 5 _ rfl,hcell 6 _ rfl,hcell 7 _ rfl,hcell 8 _ rfl,hcell 9 _ rfl,hcell 10 _ rfl,hcell 11 _ rfl,hcell 12 _ rfl,hcell 13 _ rfl⟩
structure QB (base lo hi:Nat)(w0:World)(P:List (Value×Value))(v:Value)(h:Hd)(nq:Nat)(L:List (List Rec))(j:Nat)(w:World):Prop where
 below:Below base w0 w
 kept:∀b,lo≤b→b<hi→w.heap[b]? =w0.heap[b]?
 row:w.ownsRow base 33 14 v P.length (uN h P)
 rest:∀k,j≤k→∀(h1:k<P.length) (h2:k<L.length),YR w base P[k].1 nq∧w.ownsRow base 80 5 P[k].2 L[k].length (qp L[k])
section
variable {base lo hi nq j:Nat}{w0 w w':World}{P:List (Value×Value)}{v:Value}{h:Hd}{L:List (List Rec)}
theorem QB.moved (m:QB base lo hi w0 P v h nq L j w)(hB:Below w.heap.size w w')(hb:base≤w.heap.size)(hh:hi≤w.heap.size):QB base lo hi w0 P v h nq L j w':=by
 refine⟨m.below.trans (hB.mono hb),fun b h1 h2=>(hB.block b (by omega)).trans (m.kept b h1 h2),ownsRow_below m.row hB,fun k h1 h2 h3=>?_⟩;obtain⟨⟨xs,h4⟩,h5⟩:=m.rest k h1 h2 h3;exact⟨⟨xs,ownsRow_below h4 hB⟩,ownsRow_below h5 hB⟩
def Spares (lo hi:Nat)(P:List (Value×Value))(v:Value)(j:Nat)(b:Nat):Prop:=(lo≤b∧b<hi)∨v.ownBlock=some b∨∃k,j<k∧∃h1:k<P.length,P[k].1.ownBlock=some b∨P[k].2.ownBlock=some b
theorem QB.spares (m:QB base lo hi w0 P v h nq L j w)(hP:P.length=L.length)(hap:ApartP P)(hvr:∀b,v.ownBlock=some b→∀p∈P,p.1.ownBlock≠some b∧p.2.ownBlock≠some b)(hlo:∀k (h1:k<P.length),∀b,(P[k].1.ownBlock=some b∨P[k].2.ownBlock=some b)→b<lo)(hh:hi≤w.heap.size)(hj:j<P.length):
 ∀b,Spares lo hi P v j b→b<w.heap.size∧P[j].1.ownBlock≠some b∧P[j].2.ownBlock≠some b∧(Value.slice none 0 0).ownBlock≠some b∧(Value.slice none 0 0).ownBlock≠some b:=by
 intro b hb;have hn:(Value.slice none 0 0).ownBlock≠some b:=by intro h;cases h
 rcases hb with⟨h1,h2⟩|h1 | ⟨k,hjk,hk,h1⟩
 ·exact⟨by omega,fun e=>by have:=hlo j hj b (.inl e);omega,fun e=>by have:=hlo j hj b (.inr e);omega,hn,hn⟩
 ·have:=hvr b h1 P[j] (List.getElem_mem hj);exact⟨(m.row.lt b h1).2,this.1,this.2,hn,hn⟩
 ·obtain⟨⟨xs,h4⟩,h5⟩:=m.rest k (by omega) hk (by omega);have h6:=List.pairwise_iff_getElem.1 hap.1 j k hj hk hjk;refine⟨?_,fun e=>?_,fun e=>?_,hn,hn⟩
  ·rcases h1 with h1 | h1
   ·exact(h4.lt b h1).2
   ·exact(h5.lt b h1).2
  ·have:=h6 b (.inl e);rcases h1 with h1 | h1
   ·exact this.1 h1
   ·exact this.2 h1
  ·have:=h6 b (.inr e);rcases h1 with h1 | h1
   ·exact this.1 h1
   ·exact this.2 h1
theorem QB.next (m:QB base lo hi w0 P v h nq L j w)(hb:jh base (Spares lo hi P v j) w w'):QB base lo hi w0 P v h nq L (j+1) w':=by
 refine⟨m.below.trans hb.1,fun b h1 h2=>(hb.2 b (.inl ⟨h1,h2⟩)).trans (m.kept b h1 h2),qj m.row fun b hv=>hb.2 b (.inr (.inl hv)),fun k h1 h2 h3=>?_⟩;obtain⟨⟨xs,h4⟩,h5⟩:=m.rest k (by omega) h2 h3;exact⟨⟨xs,qj h4 fun b hv=>hb.2 b (.inr (.inr ⟨k,by omega,h2,.inl hv⟩))⟩,qj h5 fun b hv=>hb.2 b (.inr (.inr ⟨k,by omega,h2,.inr hv⟩))⟩
theorem QB.loose (m:QB base lo hi w0 P v h nq L j w)(hap:ApartP P)(hb:base≤w.heap.size)(hj:j<P.length)(hL:j<L.length):Loose base w P[j].1 P[j].2 (.slice none 0 0) (.slice none 0 0) nq L[j] [] []:=by
 obtain⟨h4,h5⟩:=m.rest j (Nat.le_refl _) hj hL;have hn:∀g,(Value.slice none 0 0).ownBlock≠some g:=fun g h=>by cases h
 exact⟨h4,h5,World.ownsRow_nil _ _ _ _,World.ownsRow_nil _ _ _ _,fun g hg=>hap.2 _ (List.getElem_mem hj) g hg,fun g _=>hn g,fun g _=>hn g,fun g _=>hn g,fun g _=>hn g,fun g _=>hn g,hb⟩
end
theorem answers_any (N:List tr.Zn)(hN:N.length≤1048576)(v:Value)(ms:List Msg)(hms:ms.length≤1048576)(u:Value)(a b:Int)(w:World)(het:ErrT w)(hv:KU w v N)(hu:MsgsAt w u ms):
 Calls Tryz.prog 3 #[v,u,.int .i64 a,.int .i64 b] w fun e w'=>e= .returned (.bool true)∧Below w.heap.size w w':=by
 have HH:=qe (V7 N hN v w hv);have HET:=qe het;have HU:=qe hu;have HMS:=qe hms;obtain⟨va,vc,rfl,-,-⟩:=id hv;obtain⟨ua,uc,rfl,-,-⟩:=id hu;obtain⟨nb,hnb⟩:∃x,x=tr.zR a b:=⟨_,rfl⟩;have HNW:=qe (JR a b);have HRN:=qe (KC a b);rw[← hnb]at HNW HRN;clear het hv hu hms hnb
 go_enter Tryz.func3,Tryz.ntmps3
 go_wp2_with fail;refine HH.out.mono ?_;rintro e w1 ⟨H,hv,gv,rfl,-,-,hB1,hP⟩;have HB1:=qe hB1;have HAL:=qe (alive_any w1 (HET.out.below hB1));have HPP:=qe hP;obtain⟨hp,rfl⟩:∃p,hv= .pointer p:=by
  rcases hP with⟨-,h,-⟩|⟨-,-,-,h,-,-,h1,-⟩
  ·exact⟨_,h⟩
  ·exact⟨_,h1⟩
 obtain⟨ga,gn,gc,rfl⟩:∃x n c,gv= .slice x n c:=by
  rcases hP with⟨-,-,h⟩|⟨-,-,-,_,_,_,-,-,-,-,-,⟨g,off,cap,h,-⟩,-⟩
  ·exact⟨_,_,_,h⟩
  ·exact⟨_,_,_,h⟩
 clear hB1 hP HH;go_wp2_with fail;refine HAL.out.mono ?_;rintro e w2 ⟨rfl,hB2⟩;have xW:=qe hB2;have HB2:=qe (HB1.out.trans (hB2.mono HB1.out.size));clear hB2 HAL;go_wp2_with fail;refine(HNW.out w2).mono ?_;rintro e w3 ⟨rfl,hE3⟩;obtain rfl:=hE3.symm;go_wp2_with fail;refine(HRN.out w2).mono ?_;rintro e w3 ⟨rfl,hE3⟩;obtain rfl:=hE3.symm;have e0:(nb != nb)=false:=by cases nb <;> rfl
 rcases HPP.out with⟨-,h1,-⟩|⟨hH,hch,h8,h,zs,ys,h1,lz,ly,hhi,hzs,hr,hrz⟩
 ·simp only[Value.pointer.injEq]at h1;subst h1;go_wp2_with fail;go_ret;exact⟨rfl,HB2.out⟩
 ·simp only[Value.pointer.injEq]at h1;subst h1;have hpos:=hH.ne;have HHI:=qe (hhi.below xW.out);have HZS:=qe (hzs.below xW.out);have HR:=qe (hr.below xW.out);have HRZ:=qe (hrz.below xW.out);have HZ0:=qe (show 0<zs.length∧zs.length≤8∧0<ys.length∧ys.length≤8 from⟨by omega,by omega,by omega,by omega⟩);clear hH hch h8 lz ly hhi hzs hr hrz hpos HPP;go_wp2_with fail;clear e0
  go_loopw [44] (fun kv wr=>∃k:Nat,k≤ms.length∧kv= .int .i64 (k:Int)∧Hid (Below w2.heap.size w2 wr)) (fun kv _=>ms.length-(intOf kv).toNat)
  case atStart=>exact⟨0,Nat.zero_le _,rfl,qe (Below.refl _ _)⟩
  case round=>
   obtain⟨k,hk,rfl,HBR⟩:=hrel;obtain⟨wr4,hw4⟩:∃X:World,X=wr:=⟨_,rfl⟩;subst hw4;by_cases hlt:k<ms.length
   ·have hki:(k:Int)<(ms.length:Int):=by omega
    have ek:IntKind.i64.wrap ((k:Int)+1)=(k:Int)+1:=IntWalk.i64_in _ (by have:=HMS.out;omega);have HB2R:=qe (HB2.out.trans (HBR.out.mono HB2.out.size));obtain⟨ao,cap,hua,-,hm⟩:=HU.out.below HB2R.out;simp only[Value.slice.injEq]at hua;obtain⟨rfl,-,-⟩:=hua;obtain⟨xb,xoff,mq,ma,mu,md,rfl,-,hc,hin,hfit⟩:=hm k hlt;obtain⟨M,hM⟩:∃M,M=ms[k]:=⟨_,rfl⟩;rw[← hM]at hc hin hfit;obtain⟨hd,qs,an,au,ad⟩:=M;obtain⟨hi,rs,op,b3,b4,b5,b6,b7,b8,rc⟩:=hd;have c0:=hc 0 _ rfl;have c1:=hc 1 _ rfl;have c2:=hc 2 _ rfl;have c3:=hc 3 _ rfl;have c4:=hc 4 _ rfl;have c5:=hc 5 _ rfl;have c6:=hc 6 _ rfl;have c7:=hc 7 _ rfl;have c8:=hc 8 _ rfl;have c9:=hc 9 _ rfl;have c10:=hc 10 _ rfl;have c11:=hc 11 _ rfl;have c12:=hc 12 _ rfl;have c13:=hc 13 _ rfl;simp only[Nat.add_zero]at c0;obtain⟨hqq,haa,huu,hdd⟩:=hin;have nq:=hfit.nq;have na:=hfit.na;have nu:=hfit.nu;have nd:=hfit.nd;simp only at nq na nu nd hqq haa huu hdd;obtain⟨mqa,mqc,rfl,-⟩:=id hqq;obtain⟨maa,mac,rfl,-⟩:=id haa;obtain⟨mua,muc,rfl,-⟩:=id huu;obtain⟨mda,mdc,rfl,-⟩:=id hdd;obtain⟨w5,hw5⟩:∃X,X=wr4.alloc (.cells (yG ⟨hi,rs,op,b3,b4,b5,b6,b7,b8,rc⟩ (.slice mqa qs.length mqc) (.slice maa an.length mac) (.slice mua au.length muc) (.slice mda ad.length mdc)).toArray 33):=⟨_,rfl⟩;obtain⟨hB5,hs5,hm5⟩:=zC hw5;obtain⟨bx,hbx⟩:∃b,b=wr4.heap.size:=⟨_,rfl⟩;rw[← hbx]at hm5;have HTW:=qe (UW ⟨hi,rs,op,b3,b4,b5,b6,b7,b8,rc⟩ qs an au ad (by omega) (by omega) (by omega) (by omega) _ _ _ _ hfit.fq hfit.fa hfit.fu hfit.fd w5 (hqq.below hB5) (haa.below hB5) (huu.below hB5) (hdd.below hB5));have HRA:=qe (show ∀X,Below wr4.heap.size wr4 X→Calls Tryz.prog 12 #[.slice ga gn gc,yZ ⟨hi,rs,op,b3,b4,b5,b6,b7,b8,rc⟩ (.slice mqa qs.length mqc) (.slice maa an.length mac) (.slice mua au.length muc) (.slice mda ad.length mdc)] X fun e w'=>RAnsPost (tr.uV H ⟨⟨hi,rs,op,b3,b4,b5,b6,b7,b8,rc⟩,qs,an,au,ad⟩) (.slice mqa qs.length mqc) qs X e w' from fun X hX=>
     ransw_any _ ys H HZ0.out.2.2.1 HZ0.out.2.2.2 hi rs op b3 b4 b5 b6 b7 b8 rc qs an au ad (by omega) (by omega) (by omega) (by omega) (fun x hx=>(hfit.sq x hx).2) (fun x hx=>(hfit.sa x hx).2) (fun x hx=>(hfit.su x hx).2) (fun x hx=>(hfit.sd x hx).2) _ _ _ _ X (HR.out.below (HBR.out.trans (hX.mono HBR.out.size))) (HRZ.out.below (HBR.out.trans (hX.mono HBR.out.size))) (hqq.below hX) (haa.below hX) (huu.below hX) (hdd.below hX))
    have HQ:=qe hqq;have HA:=qe haa;have HUU:=qe huu;have HD:=qe hdd;have HNQ:=qe (show qs.length≤1048576∧an.length≤1048576∧au.length≤1048576∧ad.length≤1048576 from⟨nq,na,nu,nd⟩);have HW5:=qe hw5;have HBX:=qe hbx;have HM5:=qe hm5;have jO:=qe hB5;have HLT:=qe hlt;clear hM hc hm hfit hqq haa huu hdd nq na nu nd hw5 hbx hm5 hB5 hs5 hlt;go_upto_region 9 with fail;rw[← HW5.out,← HBX.out];clear c0 c1 c2 c3 c4 c5 c6 c7 c8 c9 c10 c11 c12 c13;obtain⟨x0,x1,x2,x3,x4,x5,x6,x7,x8,x9,x10,x11,x12,x13⟩:=HM5.out.facts;go_wp2_with fail;refine HTW.out.mono ?_;rintro e w6 ⟨tq,tga,tca,tgu,tcu,tgd,tcd,rfl,hB6,hq6,ha6,hu6,hd6⟩;have hqt:=owns_qns hq6;obtain⟨tqa,tqc,rfl,-⟩:=qi hq6;have hfq:yz (.slice tqa qs.length tqc):=Yd hq6;obtain⟨w7,hw7⟩:∃X,X=w6.alloc (.cells (yG ⟨hi,rs,op,b3,b4,b5,b6,b7,b8,rc⟩ (.slice tqa qs.length tqc) (.slice (some ⟨tga,0,none⟩) an.length tca) (.slice (some ⟨tgu,0,none⟩) au.length tcu) (.slice (some ⟨tgd,0,none⟩) ad.length tcd)).toArray 33):=⟨_,rfl⟩;obtain⟨hB7,hs7,hm7⟩:=zC hw7;obtain⟨by_,hby⟩:∃b,b=w6.heap.size:=⟨_,rfl⟩;rw[← hby]at hm7;have HB56:=qe hB6;have HB47:=qe (jO.out.trans ((hB6.trans (hB7.mono hB6.size)).mono jO.out.size));have HTQ:=qe (hqt.below hB7);have HTA:=qe (ha6.below hB7);have HTU:=qe (hu6.below hB7);have HTD:=qe (hd6.below hB7);have HM57:=qe (HM5.out.below (hB6.trans (hB7.mono hB6.size)));have HW7:=qe hw7;have HBY:=qe hby;have HM7:=qe hm7;have HANS:=qe (show ∀X,Below w7.heap.size w7 X→Calls Tryz.prog 11 #[.pointer (some ⟨h,0,none⟩),yZ ⟨hi,rs,op,b3,b4,b5,b6,b7,b8,rc⟩ (.slice tqa qs.length tqc) (.slice (some ⟨tga,0,none⟩) an.length tca) (.slice (some ⟨tgu,0,none⟩) au.length tcu) (.slice (some ⟨tgd,0,none⟩) ad.length tcd)] X fun e w'=>ZG (tr.uV H ⟨⟨hi,rs,op,b3,b4,b5,b6,b7,b8,rc⟩,qs,an,au,ad⟩) qs X e w' from fun X hX=>
     answer_any _ h zs H HZ0.out.1 HZ0.out.2.1 hi rs op b3 b4 b5 b6 b7 b8 rc qs an au ad (by have:=HNQ.out.1;omega) (by have:=HNQ.out.2.1;omega) (by have:=HNQ.out.2.2.1;omega) (by have:=HNQ.out.2.2.2;omega) _ _ _ _ hfq X (HHI.out.below (HBR.out.trans ((HB47.out.trans (hX.mono HB47.out.size)).mono HBR.out.size))) (HZS.out.below (HBR.out.trans ((HB47.out.trans (hX.mono HB47.out.size)).mono HBR.out.size))) (HTQ.out.below hX) (HTA.out.recs.below hX) (HTU.out.recs.below hX) (HTD.out.recs.below hX))
    clear hB6 hq6 ha6 hu6 hd6 hqt hfq hw7 hB7 hs7 hm7 hby HTW;clear x0 x1 x2 x3 x4 x5 x6 x7 x8 x9 x10 x11 x12 x13;go_upto_region 10 with fail;rw[← HW7.out,← HBY.out];obtain⟨x0,x1,x2,x3,x4,x5,x6,x7,x8,x9,x10,x11,x12,x13⟩:=HM7.out.facts;go_wp2_with fail;refine(HANS.out w7 (Below.refl _ _)).mono ?_;rintro e w8 ⟨hA,P,xv,hL,hP2,hP16,rfl,hB8,hown⟩;obtain⟨xs,hxs⟩:∃xs,xs=tr.uV H ⟨⟨hi,rs,op,b3,b4,b5,b6,b7,b8,rc⟩,qs,an,au,ad⟩:=⟨_,rfl⟩;rw[← hxs]at HANS HRA hL;have hxl:xs.length≤1000000:=by rw[hL];unfold tr.Q3;rw[List.length_map];omega
    obtain⟨PP,hPn,hrow,hrest,hap,hvr⟩:=hown;obtain⟨xa,xc,rfl,-⟩:=qi hrow;have HB78:=qe hB8;have HXM:=qe (show jB w8 (.slice xa PP.length xc) xs by
     rw[hL];exact kZ.row ⟨PP,hPn,hrow,hrest,hap,hvr⟩ (by have:=HNQ.out.1;omega) fun p hp=>by have:=hP16 p hp;omega)
    have HML:=qe (show ∀W':World,Below w8.heap.size w8 W'→QB w7.heap.size w8.heap.size W'.heap.size W' PP (.slice xa PP.length xc) hA qs.length P 0 W' from fun W' hW=>by
     refine⟨Below.refl _ _,fun _ _ _=>rfl,ownsRow_below hrow hW,fun k _ h1 h2=>?_⟩;exact⟨⟨_,ownsRow_below (hrest k h1 h2).1 hW⟩,ownsRow_below (hrest k h1 h2).2 hW⟩)
    have HAP:=qe hap;have HVR:=qe hvr;have HPN:=qe hPn;have HP16:=qe hP16;have HXL:=qe hxl;have HLO:=qe (show ∀k (h1:k<PP.length),∀b,(PP[k].1.ownBlock=some b∨PP[k].2.ownBlock=some b)→b<w8.heap.size from fun k h1 b hb=>by
     obtain⟨h4,h5⟩:=hrest k h1 (by omega);rcases hb with hb | hb
     ·exact(h4.lt b hb).2
     ·exact(h5.lt b hb).2)
    have HPL:=qe (show PP.length≤200 by omega);have HB48:=qe (HB47.out.trans (hB8.mono HB47.out.size));have HM58:=qe (HM57.out.below hB8);have HM78:=qe (HM7.out.below hB8);clear hL hP2 hP16 hB8 hxs hPn hrow hrest hap hvr hxl;clear x0 x1 x2 x3 x4 x5 x6 x7 x8 x9 x10 x11 x12 x13;obtain⟨x0,x1,x2,x3,x4,x5,x6,x7,x8,x9,x10,x11,x12,x13⟩:=HM58.out.facts;go_wp2_with fail;refine(HRA.out w8 HB48.out).mono ?_;rintro e w9 ⟨yv,rfl,hB9,hY⟩;have HB89:=qe hB9;have HB49:=qe (HB48.out.trans (hB9.mono HB48.out.size));have HB79:=qe (HB78.out.trans (hB9.mono HB78.out.size));have HYK:=qe hY;have hyr:jB w9 yv xs:=hY w9 (Nat.le_refl _) (fun _ _ _=>rfl) (HQ.out.below HB49.out);obtain⟨ya,yc,rfl,-⟩:=id hyr;have HRW:=qe (rows_any xs HXL.out _ _ w9 (HXM.out.below hB9) hyr);clear hB9 hY hyr;clear x0 x1 x2 x3 x4 x5 x6 x7 x8 x9 x10 x11 x12 x13;go_wp2_with fail;refine HRW.out.mono ?_;rintro e wA ⟨rfl,hBA⟩;have HB9A:=qe hBA;have HB7A:=qe (HB79.out.trans (hBA.mono HB79.out.size));have HB4A:=qe (HB49.out.trans (hBA.mono HB49.out.size));have HM7A:=qe (HM7.out.below HB7A.out);have HM5A:=qe (HM57.out.below HB7A.out);have HWM:=qe (UT w5.heap.size ⟨hi,rs,op,b3,b4,b5,b6,b7,b8,rc⟩ qs an au ad (by have:=HNQ.out.1;omega) (by have:=HNQ.out.2.1;omega) (by have:=HNQ.out.2.2.1;omega) (by have:=HNQ.out.2.2.2;omega) _ tga tca tgu tcu tgd tcd _ _ _ _ wA (HTQ.out.below HB7A.out) (HTA.out.below HB7A.out) (HTU.out.below HB7A.out) (HTD.out.below HB7A.out) (HQ.out.below HB4A.out) (HA.out.below HB4A.out) (HUU.out.below HB4A.out) (HD.out.below HB4A.out));clear hBA HRW;obtain⟨x0,x1,x2,x3,x4,x5,x6,x7,x8,x9,x10,x11,x12,x13⟩:=HM7A.out.facts;obtain⟨y0,y1,y2,y3,y4,y5,y6,y7,y8,y9,y10,y11,y12,y13⟩:=HM5A.out.facts;go_wp2_with fail;refine HWM.out.mono ?_;rintro e wB ⟨rfl,hBB⟩;have HB9B:=qe (HB9A.out.trans (hBB.mono HB9A.out.size));have HB7B:=qe (HB7A.out.trans (hBB.mono HB7A.out.size));have HB4B:=qe (HB4A.out.trans (hBB.mono HB4A.out.size));have HM7B:=qe (HM7.out.below HB7B.out);have HMK:=HML.out wB (HB89.out.trans (HB9B.out.mono HB89.out.size));have HMK:=qe HMK;clear hBB HWM HML HM7A HM5A;clear x0 x1 x2 x3 x4 x5 x6 x7 x8 x9 x10 x11 x12 x13;clear y0 y1 y2 y3 y4 y5 y6 y7 y8 y9 y10 y11 y12 y13;obtain⟨pn,hpn⟩:∃n,n=PP.length:=⟨_,rfl⟩;have HPNN:=qe hpn;rw[← hpn]at HMK HXM ⊢;clear hpn;go_wp2_with fail
    go_loopw [68] (fun jv wx=>∃j:Nat,j≤pn∧jv= .int .i64 (j:Int)∧Hid (QB w7.heap.size w8.heap.size wB.heap.size wB PP (.slice xa pn xc) hA qs.length P j wx)) (fun jv _=>pn-(intOf jv).toNat)
    case atStart=>exact⟨0,Nat.zero_le _,rfl,HMK⟩
    case round=>
     obtain⟨j,hj,rfl,HJ⟩:=hrel;obtain⟨wC,hwC⟩:∃X:World,X=wr:=⟨_,rfl⟩;subst hwC;have HBC:=qe HJ.out.below;have HSZ:=qe HJ.out.below.size;have H7B:=qe (show w7.heap.size≤wB.heap.size from HB7B.out.size);by_cases hjl:j<pn
     ·have hji:(j:Int)<(pn:Int):=by omega
      have ej:IntKind.i64.wrap ((j:Int)+1)=(j:Int)+1:=IntWalk.i64_in _ (by have:=HPL.out;have:=HPNN.out;omega);have hjP:j<PP.length:=by have:=HPNN.out;omega
      have hjL:j<P.length:=by have:=HPN.out;omega
      have hrw:=HJ.out.row;have hlo:=HJ.out.loose HAP.out (by have:=HSZ.out;have:=H7B.out;omega) hjP hjL;obtain⟨xg,xo,xcp,hxv,-,-,hcs⟩:=own_msg hrw hjP;simp only[Value.slice.injEq]at hxv;obtain⟨rfl,-,-⟩:=hxv;obtain⟨pq,hpq⟩:∃x,x=PP[j].1:=⟨_,rfl⟩;obtain⟨pr,hpr⟩:∃x,x=PP[j].2:=⟨_,rfl⟩;obtain⟨pl,hpl⟩:∃x,x=P[j]:=⟨_,rfl⟩;have hp16:=HP16.out P[j] (List.getElem_mem hjL);rw[← hpq,← hpr]at hcs;rw[← hpq,← hpr,← hpl]at hlo;rw[← hpl]at hp16;obtain⟨pqa,pqc,rfl,-⟩:=(let ⟨_,h⟩:=hlo.qs;qi h:∃a cap,pq= .slice a qs.length cap∧qs.length≤cap);obtain⟨pra,prc,rfl,-⟩:=qi hlo.ra;obtain⟨wD,hwD⟩:∃X,X=wC.alloc (.cells (yG hA (.slice pqa qs.length pqc) (.slice pra pl.length prc) (.slice none 0 0) (.slice none 0 0)).toArray 33):=⟨_,rfl⟩;obtain⟨hBD,hsD,hmD⟩:=zC hwD;obtain⟨bd,hbd⟩:∃b,b=wC.heap.size:=⟨_,rfl⟩;rw[← hbd]at hmD;have hJD:=HJ.out.moved hBD (by have:=HSZ.out;have:=H7B.out;omega) HSZ.out;have hsp:=hJD.spares HPN.out HAP.out (by rw[HPNN.out];exact HVR.out) HLO.out (by have:=HSZ.out;omega) hjP;have hlD:=hJD.loose HAP.out (by have:=HSZ.out;have:=H7B.out;omega) hjP hjL;rw[← hpq,← hpr]at hsp;rw[← hpq,← hpr,← hpl]at hlD;have HMM:=qe (Vm w7.heap.size (Spares w8.heap.size wB.heap.size PP (.slice (some ⟨xg,xo,none⟩) pn xc) j) hA _ _ _ _ qs.length pl [] [] (by have:=HNQ.out.1;omega) (by omega) (by simp) (by simp) wD hlD hsp);have HJD:=qe hJD;have HWD:=qe hwD;have HBD:=qe hbd;have HMD:=qe hmD;have HJL:=qe hjl;obtain⟨c0,c1,c2,c3,c4,c5,c6,c7,c8,c9,c10,c11,c12,c13⟩:=hcs;clear hjP hjL hrw hlo hpq hpr hpl hp16 hwD hBD hsD hmD hbd hJD hsp hlD hjl;go_upto_region 17 with fail;rw[← HWD.out,← HBD.out];clear c0 c1 c2 c3 c4 c5 c6 c7 c8 c9 c10 c11 c12 c13;obtain⟨x0,x1,x2,x3,x4,x5,x6,x7,x8,x9,x10,x11,x12,x13⟩:=HMD.out.facts;go_wp2_with fail;refine HMM.out.mono ?_;rintro e wE ⟨rfl,hBE⟩;have HJE:=qe (HJD.out.next hBE);clear hBE;clear x0 x1 x2 x3 x4 x5 x6 x7 x8 x9 x10 x11 x12 x13;go_wp2_with fail
      go_roundw
      case rel=>exact⟨j+1,by have:=HJL.out;omega,by go_num,HJE⟩
      case measure=>have:=HJL.out;simp[intOf];omega
     ·obtain rfl:j=pn:=by omega
      have hji:¬((j:Int)<(j:Int)):=by omega
      have HMC:=qe (show qy wC by_ ⟨hi,rs,op,b3,b4,b5,b6,b7,b8,rc⟩ (.slice tqa qs.length tqc) (.slice (some ⟨tga,0,none⟩) an.length tca) (.slice (some ⟨tgu,0,none⟩) au.length tcu) (.slice (some ⟨tgd,0,none⟩) ad.length tcd) from(HBC.out.block by_ HM7.out.lt).trans HM7B.out);have HB7C:=qe (show Below w7.heap.size w7 wC from HB7B.out.trans HBC.out);have HB4C:=qe (show Below wr4.heap.size wr4 wC from HB47.out.trans (HB7C.out.mono HB47.out.size));have hyC:∀W':World,Below wC.heap.size wC W'→jB W' (.slice ya xs.length yc) xs:=fun W' hW=>HYK.out W' (by have:=HB9B.out.size;have:=HSZ.out;have:=hW.size;omega) (fun b h1 h2=>by
       have h3:=HB9B.out.size;have h4:=HSZ.out;rw[hW.block b (by omega),HJ.out.kept b h1 (by omega),HB9B.out.block b h2]) (HQ.out.below (HB4C.out.trans (hW.mono HB4C.out.size)))
      have HYC:=qe hyC;clear hjl hyC;obtain⟨x0,x1,x2,x3,x4,x5,x6,x7,x8,x9,x10,x11,x12,x13⟩:=HMC.out.facts;go_wp2_with fail;refine(HANS.out wC HB7C.out).mono ?_;rintro e wD ⟨hA2,P2,xv2,hL2,hP22,hP162,rfl,hBD,hown2⟩;have hrow2:jB wD xv2 xs:=by
       rw[hL2];exact hown2.row (by have:=HNQ.out.1;omega) fun p hp=>by have:=hP162 p hp;omega
      have HRW:=qe (rows_any xs HXL.out _ _ wD hrow2 (HYC.out wD hBD));obtain⟨x2a,x2c,rfl,-⟩:=id hrow2;have HBD:=qe (HB4C.out.trans (hBD.mono HB4C.out.size));clear hL2 hP22 hP162 hBD hown2 hrow2;clear x0 x1 x2 x3 x4 x5 x6 x7 x8 x9 x10 x11 x12 x13;go_wp2_with fail;refine HRW.out.mono ?_;rintro e wE ⟨rfl,hBE⟩;have HBE:=qe (HBR.out.trans ((HBD.out.trans (hBE.mono HBD.out.size)).mono HBR.out.size));clear hBE;go_wp2_with fail
      go_roundw
      case rel=>exact⟨k+1,by have:=HLT.out;omega,by go_num,HBE⟩
      case measure=>have:=HLT.out;simp[intOf];omega
   ·obtain rfl:k=ms.length:=by omega
    have HBE:=qe (HB2.out.trans (HBR.out.mono HB2.out.size));have hki:¬((ms.length:Int)<(ms.length:Int)):=by omega
    clear hlt hk;go_wp2_with fail;go_ret;exact⟨rfl,HBE.out⟩
end Go.Proofs.YtpcmilhjpmlbpaaGreatDoor
namespace Go.Proofs.YtpcmilhjpmlbpaaGreatDoor
open Go.RowKit Go.ChangeShapes Go.WideShapes Go.ChangeAt Go.Deep Go.Joins
section
variable {H:Type}{enc:TypeId×Value→H}{P:Program}{w:World}{base:Nat}{spare:Nat→Bool}{held:Bool}
end
section
variable {H:Type}{enc:TypeId×Value→H}{W:World}{spare:Nat→Bool}{held:Bool}
theorem open_lots {fuel:Nat}{v:Value}{x:DataW H×List MemPlace}(hf:DataW.trod enc Tryz.prog W 0 spare held fuel 22 [v]=some x)(hb:Rows.uptoBulk x.1≤1048576):
 ∃ao cap l,v= .slice ao (l:List tr.Zn).length cap∧l.length≤1048576∧KU W (.slice ao l.length cap) l:=by
 rcases jL Tryz.underlying22 Tryz.underlying42 (by kernel_rfl) (by kernel_rfl) hf with⟨hcs,_⟩|⟨ad,len,cap,m,D,Pl,hcs,hbb,hl,hm,hmm,hx,hi⟩
 ·simp only[List.cons.injEq,and_true]at hcs;exact⟨none,0,[],hcs,by simp,⟨none,0,rfl,Nat.le_refl _,fun k hk=>absurd hk (Nat.not_lt_zero _)⟩⟩
 ·simp only[List.cons.injEq,and_true]at hcs;have hnm:len≤m:=by rw[hmm];split <;> omega
  have hlb:len≤1048576:=by
   have h1:=vS.JK ((List.range len).map D) ((List.range (m-len)).map fun j=>D (len+j));rw[List.length_map,List.length_range]at h1;rw[hx]at hb;exact Nat.le_trans h1 hb
  have hD:∀i,i<len→Rows.uptoBulk (D i)≤1048576:=fun i hi=>by
   have h1:Rows.uptoBulk (D i)≤Rows.uptoBulkAll ((List.range len).map D):=vS.XH (List.mem_map.2 ⟨i,List.mem_range.2 hi,rfl⟩);rw[hx]at hb;simp only[Rows.uptoBulk]at hb;omega
  obtain⟨l,h1,h2⟩:=XJ (P:=fun i (M:tr.Zn)=>∃rv,W.cell? (ad.add (i*2))=some (.string M.ap)∧W.cell? (ad.add (i*2+1))=some rv∧qm W rv M.l∧yt rv∧M.ap.size≤1099511627776∧(∀r∈M.l,(Lit.int .i64 r.typ).wf=true)∧∀r∈M.l,r.owner.size≤1099511627776) len (fun i hin=>by
   obtain⟨ys,k,hDi,_,_,hf⟩:=hi i (by omega);have hDb:=hD i hin;rw[hDi]at hDb;obtain⟨v0,y0,c0,g0,t0⟩:=hf 0 _ rfl;obtain⟨v1,y1,c1,g1,t1⟩:=hf 1 _ rfl;obtain⟨s,e0,hs,_⟩:=DataW.trod_string Tryz.underlying9 t0;have fa:=Z0 Tryz.underlying31 t1;have b0:Rows.uptoBulk y0.1≤1048576:=Nat.le_trans (vS.Jz (List.mem_map.2 ⟨y0,List.mem_of_getElem? g0,rfl⟩)) hDb;have b1:Rows.uptoBulk y1.1≤1048576:=Nat.le_trans (vS.Jz (List.mem_map.2 ⟨y1,List.mem_of_getElem? g1,rfl⟩)) hDb;obtain⟨a1,c1',l1,e1,_,r1,k1⟩:=JP t1;simp only[List.cons.injEq,and_true]at e0;subst e0 e1;obtain⟨n1,z1⟩:=JO t1 r1;have h1:=vS.UZ (H:=H) s;have h2:y0.1= .lit (.string s.data.toList):=congrArg Prod.fst hs;rw[← h2]at h1;exact⟨⟨s,l1⟩,_,c0,c1,r1,fa,by show s.size≤_;omega,k1,fun r hr=>by have:=z1 r hr;omega⟩)
  refine⟨some ad,cap,l,by rw[hcs,h1],by omega,⟨some ad,cap,rfl,by omega,fun k hk=>?_⟩⟩;obtain⟨rv,c0,c1,hr⟩:=h2 k _ (List.getElem?_eq_getElem hk);obtain⟨b,off,spot⟩:=ad;have hspot:spot=none:=by
   have hk0:0<l.length:=by omega
   obtain⟨_,hc0,_⟩:=h2 0 _ (List.getElem?_eq_getElem hk0);have h9:=World.cell?_spot hc0
   simpa[Addr.add] using h9
  subst hspot;rw[Addr.add_lit]at c0 c1;exact⟨b,off,rv,rfl,World.block_lt_of_cell? _ _ c0,c0,by rw[Nat.add_assoc];exact c1,hr⟩
end
end Go.Proofs.YtpcmilhjpmlbpaaGreatDoor
namespace Go.Proofs.YtpcmilhjpmlbpaaGreatDoor
open Go.RowKit Go.ChangeShapes Go.WideShapes Go.ChangeAt
namespace ha
theorem et:Tryz.prog.globalNamed "errors.errorType" =some 0:=by kernel_rfl
theorem rt:(Tryz.prog.cutTypes.find? (·.1 == "internal/reflectlite.rtype")).map (·.2)=some 191:=by kernel_rfl
theorem oneRow:((List.range 295).filter fun t=>Tryz.prog.rowNamed t [101,114,114,111,114])= [99]:=by kernel_rfl
theorem size:Tryz.prog.types.size=295:=by kernel_rfl
end ha
theorem errT_of_laid {W:World}(h:laidMetH Tryz.prog [("errors.errorType",Rows.laid_errors_errorType)] W):ErrT W:=by
 have h':laidMet Tryz.prog [] W∧handlesMet Tryz.prog [("errors.errorType",Rows.laid_errors_errorType)] W:=h
 obtain⟨name,u,ty,e1,e2,e3,e4,e5⟩:=h'.2 _ (List.mem_singleton.2 rfl);have en:name= [101,114,114,111,114]:=(Option.some.inj e1).symm;subst en;obtain rfl:=Option.some.inj (ha.rt.symm.trans e2);have hm:ty∈(List.range 295).filter fun t=>Tryz.prog.rowNamed t [101,114,114,111,114]:=List.mem_filter.2 ⟨List.mem_range.2 (by rw[← ha.size];exact e3),e4⟩;rw[ha.oneRow]at hm;obtain rfl:=List.mem_singleton.1 hm;have hh:typeHandle Tryz.prog 99= .pointer (some ⟨2,99,none⟩):=by kernel_rfl
 rw[hh]at e5;unfold ErrT
 simpa using World.var?_cell ha.et e5 0
noncomputable def Vq (os:Os):World:=
 { World.holding Tryz.prog os ⟨#[],#[],[]⟩ with heap:=(World.holding Tryz.prog os ⟨#[],#[],[]⟩).heap.modify 0 fun
  | .cells _ t frozen=>.cells #[.iface 191 (.agg #[.pointer (some ⟨2,99,none⟩)])] t frozen
  | o=>o}
theorem laid_met (os:Os)(args:Array Value):laidMetH Tryz.prog [("errors.errorType",Rows.laid_errors_errorType)] ((Vq os).forCall (fun _ _=>0) ⟨#[],args,[]⟩).memory:=
 laidMetH_of_parts (laidMet_nil _ _) (by kernel_rfl)
end Go.Proofs.YtpcmilhjpmlbpaaGreatDoor
