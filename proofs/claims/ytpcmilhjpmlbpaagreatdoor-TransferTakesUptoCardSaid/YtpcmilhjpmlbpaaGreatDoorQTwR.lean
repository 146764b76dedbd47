import Derived.Test.YtpcmilhjpmlbpaaGreatDoorRows
import Derived.Test.YtpcmilhjpmlbpaaGreatDoorQCpE
import Derived.Test.YtpcmilhjpmlbpaaGreatDoorQCpL
import Derived.Deep.Slices
import Derived.Deep.Fields
import Derived.ChangeSame
import Derived.ProofKit
import Derived.OpenShut
import Derived.Lib.SmallJoins
import Derived.JoinedCond
set_option maxRecDepth 100000
set_option maxHeartbeats 1000000
namespace Go.Proofs.YtpcmilhjpmlbpaaGreatDoor
open Go.ChangeShapes Go.WideShapes Go.Deep Go.RowKit
section
variable {H:Type}{enc:TypeId×Value->H}{P:Program}{w:World}{base:Nat}{spare:Nat->Bool}{held:Bool}
theorem ui {t e:TypeId}{fs:Array Field}{fuel:Nat}{cs:List Value}{x:DataW H×List MemPlace}(ht:P.underlying t=some (.slice e))(he:P.underlying e=some (.struct fs))
 (hone:oneCellFields P fs=true) (hC:P.cellsOf e=fs.size) (h:DataW.trod enc P w base spare held fuel t cs=some x):
 (cs= [.slice none 0 0]/\x=(.nil,[]))\/
 ∃(a:Addr) (len cap m:Nat) (D:Nat->DataW H) (Pl:Nat->List MemPlace),cs= [.slice (some a) len cap]/\base<=a.block/\len<=cap/\cap<=maxLen/\m=(if spare a.block then cap else len)/\
  x=(.slice ((List.range len).map D) ((List.range (m-len)).map λj=>D (len+j)),MemPlace.row a (m*fs.size) ++ (List.range m).flatMap Pl)/\
  ∀i,i<m->∃(ys:List (DataW H×List MemPlace)) (n:Nat),D i= .agg (ys.map (·.1))/\Pl i=ys.flatMap (·.2)/\ys.length=fs.size/\
   ∀(j:Nat) (f:Field),fs[j]? =some f->∃(v:Value) (y:DataW H×List MemPlace),w.cell? (a.add (i*fs.size+j))=some v/\ys[j]? =some y/\DataW.trod enc P w base spare held n f.type [v]=some y:=by
 rcases open_slice ht h with h0 | ⟨a,len,cap,m,n,D,Pl,hcs,hb,hl,hm,hmm,hx,hi⟩
 ·exact .inl h0
 ·refine .inr ⟨a,len,cap,m,D,Pl,hcs,hb,hl,hm,hmm,by rw[hC]at hx;exact hx,λi him=>?_⟩;obtain⟨cs',hc,ht'⟩:=hi i him;rw[hC]at hc;obtain⟨ys,n',hn',hy,hlen,hyl,hf⟩:=DataW.trod_struct he ht';obtain⟨_,hcl,hat⟩:=World.cells?_some hc;simp only[Prod.mk.injEq]at hy;refine⟨ys,n',hy.1,hy.2,hyl,λj f hj=>?_⟩;obtain⟨ho,hk⟩:=hone_of hone j f hj;have hjl:j<fs.size:=(Array.getElem?_eq_some_iff.1 hj).1;have hcell:=hat j hjl;have hv:cs'[j]? =some (cs'[j]'(by omega)):=List.getElem?_eq_getElem (by omega);have h1:=hf j f hj;rw[ho,hk]at h1;have hone':(cs'.drop j).take 1= [cs'[j]'(by omega)]:=by
   rw[Hf (by omega)];rfl
  rw[hone']at h1;have hys:ys[j]? =some (ys[j]'(by omega)):=List.getElem?_eq_getElem (by omega);refine⟨_,_,?_,hys,h1.trans hys⟩;rw[<- Go.Deep.add_add,hcell,hv]
end
theorem list_of {α:Type}{P:Nat->α->Prop}:∀n:Nat,(∀i,i<n->∃x,P i x)->∃l:List α,l.length=n/\∀(i:Nat) (x:α),l[i]? =some x->P i x:=by
 intro n
 induction n with
 | zero=>intro _;exact⟨[],rfl,λi x h=>by simp at h⟩
 | succ n ih=>
   intro h;obtain⟨l,hl,hp⟩:=ih (λi hi=>h i (by omega));obtain⟨x,hx⟩:=h n (by omega);refine⟨l ++ [x],by simp[hl],λi y hy=>?_⟩;rcases Nat.lt_or_ge i n with hi | hi
   ·rw[List.getElem?_append_left (by omega)]at hy;exact hp i y hy
   ·rw[List.getElem?_append_right (by omega)]at hy;have:i-l.length=0:=by
     rcases Nat.eq_zero_or_pos (i-l.length) with h0 | h0
     ·exact h0
     ·obtain⟨j,hj⟩:∃j,i-l.length=j+1:=⟨i-l.length-1,by omega⟩;rw[hj]at hy;simp at hy
    rw[this]at hy;simp only[List.getElem?_cons_zero,gM]at hy;subst hy;obtain rfl:i=n:=by omega
    exact hx
open Go.ChangeAt
theorem own:ownKnob Tryz.prog.godebug=none:=by kernel_rfl
section
variable {H:Type}{enc:TypeId×Value->H}{W:World}{spare:Nat->Bool}{held:Bool}
theorem xS {fuel:Nat}{v:Value}{x:DataW H×List MemPlace}(hf:DataW.trod enc Tryz.prog W 0 spare held fuel 31 [v]=some x):
 ∃a cap l,v= .slice a (l:List Rec).length cap/\l.length<=9223372036854775807/\ql W (.slice a l.length cap) l/\∀r∈l,(Lit.int .i64 r.typ).wf=true:=by
 rcases ui Tryz.underlying31 Tryz.underlying80 (by kernel_rfl) (by kernel_rfl) hf with⟨hcs,_⟩|⟨a,len,cap,m,D,Pl,hcs,hb,hl,hm,hmm,hx,hi⟩
 ·simp only[List.cons.injEq,and_true]at hcs;exact⟨none,0,[],hcs,by simp,⟨none,0,rfl,gI _,λk hk=>absurd hk (Nat.not_lt_zero _)⟩,λr hr=>by simp at hr⟩
 ·simp only[List.cons.injEq,and_true]at hcs;have hnm:len<=m:=by rw[hmm];split <;> omega
  obtain⟨cs,h1,h2⟩:=list_of (P:=λi (r:Rec)=>W.cell? (a.add (i*5))=some (.string r.owner)/\W.cell? (a.add (i*5+1))=some (.int .i64 r.typ)/\W.cell? (a.add (i*5+2))=some (.int .i64 r.cls)/\
   W.cell? (a.add (i*5+3))=some (.int .i64 r.ttl)/\W.cell? (a.add (i*5+4))=some (.string r.data)/\(Lit.int .i64 r.typ).wf=true) len (λi hin=>by
   obtain⟨ys,k,_,_,_,hf⟩:=hi i (by omega);obtain⟨v0,y0,c0,_,t0⟩:=hf 0 _ rfl;obtain⟨v1,y1,c1,_,t1⟩:=hf 1 _ rfl;obtain⟨v2,y2,c2,_,t2⟩:=hf 2 _ rfl;obtain⟨v3,y3,c3,_,t3⟩:=hf 3 _ rfl;obtain⟨v4,y4,c4,_,t4⟩:=hf 4 _ rfl;obtain⟨s,e0,_⟩:=DataW.trod_string Tryz.underlying9 t0;obtain⟨q1,e1,_,wq1⟩:=DataW.trod_int Tryz.underlying3 t1;obtain⟨q2,e2,_,_⟩:=DataW.trod_int Tryz.underlying3 t2;obtain⟨q3,e3,_,_⟩:=DataW.trod_int Tryz.underlying3 t3;obtain⟨s4,e4,_⟩:=DataW.trod_string Tryz.underlying9 t4;simp only[List.cons.injEq,and_true]at e0 e1 e2 e3 e4;subst e0 e1 e2 e3 e4;exact⟨⟨s,q1,q2,q3,s4⟩,c0,c1,c2,c3,c4,wq1⟩)
  refine⟨some a,cap,cs,by rw[hcs,h1],?_,⟨some a,cap,rfl,by omega,λk hk=>?_⟩,λr hr=>?_⟩
  ·unfold maxLen at hm;omega
  ·obtain⟨c0,c1,c2,c3,c4,_⟩:=h2 k _ (List.getElem?_eq_getElem hk);obtain⟨b,off,spot⟩:=a;have hspot:spot=none:=by
    have hk0:0<cs.length:=by omega
    have:=World.cell?_spot (h2 0 _ (List.getElem?_eq_getElem hk0)).1
    simpa[Addr.add] using this
   subst hspot;rw[Addr.add_lit]at c0 c1 c2 c3 c4;exact⟨b,off,rfl,World.block_lt_of_cell? _ _ c0,c0,by rw[Nat.add_assoc];exact c1,by rw[Nat.add_assoc];exact c2,by rw[Nat.add_assoc];exact c3,by rw[Nat.add_assoc];exact c4⟩
  ·obtain⟨k,hk,rfl⟩:=List.getElem_of_mem hr;exact(h2 k _ (List.getElem?_eq_getElem hk)).2.2.2.2.2
end
namespace uq
theorem one_le {H:Type}(d:DataW H):1<=Rows.uptoBulk d:=by
 cases d with
 | lit l=>cases l <;> simp[Rows.uptoBulk]
 | nil=>simp[Rows.uptoBulk]
 | ptr d=>simp[Rows.uptoBulk]
 | slice elems spare=>simp[Rows.uptoBulk]
 | agg parts=>simp[Rows.uptoBulk]
 | iface t d=>simp[Rows.uptoBulk]
 | map entries=>simp[Rows.uptoBulk]
 | held h=>simp[Rows.uptoBulk]
theorem part_le {H:Type}{d:DataW H}{l:List (DataW H)}(h:d∈l):Rows.uptoBulk d<=Rows.uptoBulkAll l:=by
 induction l with
 | nil=>cases h
 | cons x r ih=>
   simp only[Rows.uptoBulkAll]
   cases List.mem_cons.1 h with
   | inl e=>subst e;omega
   | inr e=>have:=ih e;omega
theorem length_le {H:Type}(l:List (DataW H)):l.length<=Rows.uptoBulkAll l:=by
 induction l with
 | nil=>simp[Rows.uptoBulkAll]
 | cons x r ih=>have:=one_le x;simp only[Rows.uptoBulkAll,Ha];omega
theorem xY {H:Type}{d:DataW H}{l:List (DataW H)}(h:d∈l):Rows.uptoBulk d<=Rows.uptoBulk (.agg l):=by
 have:=part_le h;simp only[Rows.uptoBulk];omega
theorem X5 {H:Type}{d:DataW H}{l sp:List (DataW H)}(h:d∈l):Rows.uptoBulk d<=Rows.uptoBulk (.slice l sp):=by
 have:=part_le h;simp only[Rows.uptoBulk];omega
theorem Vt {H:Type}(l sp:List (DataW H)):l.length<=Rows.uptoBulk (.slice l sp):=by
 have:=length_le l;simp only[Rows.uptoBulk];omega
theorem JX {H:Type}(s:ByteArray):s.size<=Rows.uptoBulk (DataW.lit (H:=H) (.string s.data.toList)):=by
 have e:s.data.toList.length=s.size:=by rw[Array.length_toList];rfl
 simp only[Rows.uptoBulk,e];omega
end uq
section
variable {H:Type}{enc:TypeId×Value->H}{W:World}{spare:Nat->Bool}{held:Bool}
theorem xR {fuel:Nat}{a:Option Addr}{cap:Nat}{l:List Rec}{x:DataW H×List MemPlace}(hf:DataW.trod enc Tryz.prog W 0 spare held fuel 31 [.slice a l.length cap]=some x)(hr:ql W (.slice a l.length cap) l):
 l.length<=Rows.uptoBulk x.1/\∀r∈l,r.owner.size<=Rows.uptoBulk x.1:=by
 rcases ui Tryz.underlying31 Tryz.underlying80 (by kernel_rfl) (by kernel_rfl) hf with⟨hcs,_⟩|⟨a',len,cap',m,D,Pl,hcs,hb,hl,hm,hmm,hx,hi⟩
 ·simp only[List.cons.injEq,and_true,gL]at hcs;have h0:l= []:=Hm hcs.2.1;subst h0;exact⟨gU _,λr hr=>by simp at hr⟩
 ·simp only[List.cons.injEq,and_true,gL]at hcs;obtain⟨rfl,hlen,rfl⟩:=hcs;have hnm:len<=m:=by rw[hmm];split <;> omega
  rw[hx];refine⟨?_,λr hrm=>?_⟩
  ·have:=uq.Vt ((List.range len).map D) ((List.range (m-len)).map λj=>D (len+j));rw[List.length_map,List.length_range]at this;show l.length<=Rows.uptoBulk (DataW.slice ((List.range len).map D) ((List.range (m-len)).map λj=>D (len+j)));omega
  ·obtain⟨k,hk,rfl⟩:=List.getElem_of_mem hrm;obtain⟨ys,n,hD,_,_,hfs⟩:=hi k (by omega);obtain⟨v0,y0,c0,hy0,t0⟩:=hfs 0 _ rfl;obtain⟨s,e0,hs,_⟩:=DataW.trod_string Tryz.underlying9 t0;simp only[List.cons.injEq,and_true]at e0;subst e0;obtain⟨_,_,hv,_,hrr⟩:=hr;simp only[gL]at hv;obtain⟨b,off,hbo,_,q0,_⟩:=hrr k hk;rw[<- hv.1]at hbo;simp only[gM]at hbo;subst hbo;rw[Addr.add_lit]at c0;have c0':W.cell? ⟨b,off+k*5,none⟩=some (.string s):=c0;rw[q0]at c0';simp only[gM,Value.string.injEq]at c0';rw[c0'];have h1:=uq.JX (H:=H) s;have h2:DataW.lit (H:=H) (.string s.data.toList)∈ys.map (·.1):=List.mem_map.2 ⟨y0,List.mem_of_getElem? hy0,by rw[hs]⟩;have h3:=uq.xY h2;rw[<- hD]at h3;have h4:D k∈(List.range len).map D:=List.mem_map.2 ⟨k,List.mem_range.2 (by omega),rfl⟩;have h5:=uq.X5 (sp:=(List.range (m-len)).map λj=>D (len+j)) h4;show s.size<=Rows.uptoBulk (DataW.slice ((List.range len).map D) ((List.range (m-len)).map λj=>D (len+j)));omega
theorem open_asks {fuel:Nat}{v:Value}{x:DataW H×List MemPlace}(hf:DataW.trod enc Tryz.prog W 0 spare held fuel 30 [v]=some x):
 ∃a cap l,v= .slice a (l:List Qn).length cap/\l.length<=Rows.uptoBulk x.1/\yw W (.slice a l.length cap) l/\∀r∈l,(Lit.int .i64 r.typ).wf=true/\r.name.size<=Rows.uptoBulk x.1:=by
 rcases ui Tryz.underlying30 Tryz.underlying78 (by kernel_rfl) (by kernel_rfl) hf with⟨hcs,_⟩|⟨a,len,cap,m,D,Pl,hcs,hb,hl,hm,hmm,hx,hi⟩
 ·simp only[List.cons.injEq,and_true]at hcs;exact⟨none,0,[],hcs,gU _,⟨none,0,rfl,gI _,λk hk=>absurd hk (Nat.not_lt_zero _)⟩,λr hr=>by simp at hr⟩
 ·simp only[List.cons.injEq,and_true]at hcs;have hnm:len<=m:=by rw[hmm];split <;> omega
  obtain⟨cs,h1,h2⟩:=list_of (P:=λi (r:Qn)=>W.cell? (a.add (i*3))=some (.string r.name)/\W.cell? (a.add (i*3+1))=some (.int .i64 r.typ)/\W.cell? (a.add (i*3+2))=some (.int .i64 r.cls)/\
   (Lit.int .i64 r.typ).wf=true/\r.name.size<=Rows.uptoBulk (D i)) len (λi hin=>by
   obtain⟨ys,k,hD,_,_,hf⟩:=hi i (by omega);obtain⟨v0,y0,c0,hy0,t0⟩:=hf 0 _ rfl;obtain⟨v1,y1,c1,_,t1⟩:=hf 1 _ rfl;obtain⟨v2,y2,c2,_,t2⟩:=hf 2 _ rfl;obtain⟨s,e0,hs,_⟩:=DataW.trod_string Tryz.underlying9 t0;obtain⟨q1,e1,_,wq1⟩:=DataW.trod_int Tryz.underlying3 t1;obtain⟨q2,e2,_,_⟩:=DataW.trod_int Tryz.underlying3 t2;simp only[List.cons.injEq,and_true]at e0 e1 e2;subst e0 e1 e2;have h1:=uq.JX (H:=H) s;have h2:DataW.lit (H:=H) (.string s.data.toList)∈ys.map (·.1):=List.mem_map.2 ⟨y0,List.mem_of_getElem? hy0,by rw[hs]⟩;have h3:=uq.xY h2;rw[<- hD]at h3;exact⟨⟨s,q1,q2⟩,c0,c1,c2,wq1,gQ h1 h3⟩)
  refine⟨some a,cap,cs,by rw[hcs,h1],?_,⟨some a,cap,rfl,by omega,λk hk=>?_⟩,λr hr=>?_⟩
  ·rw[hx];have:=uq.Vt ((List.range len).map D) ((List.range (m-len)).map λj=>D (len+j));rw[List.length_map,List.length_range]at this;show cs.length<=Rows.uptoBulk (DataW.slice ((List.range len).map D) ((List.range (m-len)).map λj=>D (len+j)));omega
  ·obtain⟨c0,c1,c2,_⟩:=h2 k _ (List.getElem?_eq_getElem hk);obtain⟨b,off,spot⟩:=a;have hspot:spot=none:=by
    have hk0:0<cs.length:=by omega
    have:=World.cell?_spot (h2 0 _ (List.getElem?_eq_getElem hk0)).1
    simpa[Addr.add] using this
   subst hspot;rw[Addr.add_lit]at c0 c1 c2;exact⟨b,off,rfl,World.block_lt_of_cell? _ _ c0,c0,by rw[Nat.add_assoc];exact c1,by rw[Nat.add_assoc];exact c2⟩
  ·obtain⟨k,hk,rfl⟩:=List.getElem_of_mem hr;obtain⟨_,_,_,hw,hz⟩:=h2 k _ (List.getElem?_eq_getElem hk);refine⟨hw,?_⟩;have h4:D k∈(List.range len).map D:=List.mem_map.2 ⟨k,List.mem_range.2 (by omega),rfl⟩;have h5:=uq.X5 (sp:=(List.range (m-len)).map λj=>D (len+j)) h4;rw[hx];show cs[k].name.size<=Rows.uptoBulk (DataW.slice ((List.range len).map D) ((List.range (m-len)).map λj=>D (len+j)));omega
end
open Go.Joins
section
variable {H:Type}{enc:TypeId×Value->H}{P:Program}{w:World}{base:Nat}{spare:Nat->Bool}{held:Bool}
theorem open_agg14 {t:TypeId}{f0 f1 f2 f3 f4 f5 f6 f7 f8 f9 f10 f11 f12 f13:Field}{cs:List Value}{fuel:Nat}{x:DataW H×List MemPlace}(hs:P.underlying t=some (.struct #[f0,f1,f2,f3,f4,f5,f6,f7,f8,f9,f10,f11,f12,f13]))(hone:oneCellFields P #[f0,f1,f2,f3,f4,f5,f6,f7,f8,f9,f10,f11,f12,f13]=true)
 (hsz:cs.length=14) (hf:DataW.trod enc P w base spare held fuel t cs=some x):
 ∃(v0 v1 v2 v3 v4 v5 v6 v7 v8 v9 v10 v11 v12 v13:Value) (y0 y1 y2 y3 y4 y5 y6 y7 y8 y9 y10 y11 y12 y13:DataW H×List MemPlace) (n:Nat),cs= [v0,v1,v2,v3,v4,v5,v6,v7,v8,v9,v10,v11,v12,v13]/\x.1= .agg [y0.1,y1.1,y2.1,y3.1,y4.1,y5.1,y6.1,y7.1,y8.1,y9.1,y10.1,y11.1,y12.1,y13.1]/\
  DataW.trod enc P w base spare held n f0.type [v0]=some y0/\DataW.trod enc P w base spare held n f1.type [v1]=some y1/\DataW.trod enc P w base spare held n f2.type [v2]=some y2/\DataW.trod enc P w base spare held n f3.type [v3]=some y3/\DataW.trod enc P w base spare held n f4.type [v4]=some y4/\DataW.trod enc P w base spare held n f5.type [v5]=some y5/\DataW.trod enc P w base spare held n f6.type [v6]=some y6/\DataW.trod enc P w base spare held n f7.type [v7]=some y7/\DataW.trod enc P w base spare held n f8.type [v8]=some y8/\DataW.trod enc P w base spare held n f9.type [v9]=some y9/\DataW.trod enc P w base spare held n f10.type [v10]=some y10/\DataW.trod enc P w base spare held n f11.type [v11]=some y11/\DataW.trod enc P w base spare held n f12.type [v12]=some y12/\DataW.trod enc P w base spare held n f13.type [v13]=some y13:=by
 match cs,hsz with
 | [c0,c1,c2,c3,c4,c5,c6,c7,c8,c9,c10,c11,c12,c13],_=>
   obtain⟨xs,n,_,hx,_,hlen,hg⟩:=DataW.trod_struct hs hf;obtain⟨o0,k0⟩:=hone_of hone 0 f0 rfl;obtain⟨o1,k1⟩:=hone_of hone 1 f1 rfl;obtain⟨o2,k2⟩:=hone_of hone 2 f2 rfl;obtain⟨o3,k3⟩:=hone_of hone 3 f3 rfl;obtain⟨o4,k4⟩:=hone_of hone 4 f4 rfl;obtain⟨o5,k5⟩:=hone_of hone 5 f5 rfl;obtain⟨o6,k6⟩:=hone_of hone 6 f6 rfl;obtain⟨o7,k7⟩:=hone_of hone 7 f7 rfl;obtain⟨o8,k8⟩:=hone_of hone 8 f8 rfl;obtain⟨o9,k9⟩:=hone_of hone 9 f9 rfl;obtain⟨o10,k10⟩:=hone_of hone 10 f10 rfl;obtain⟨o11,k11⟩:=hone_of hone 11 f11 rfl;obtain⟨o12,k12⟩:=hone_of hone 12 f12 rfl;obtain⟨o13,k13⟩:=hone_of hone 13 f13 rfl
   match xs,hlen with
   | [y0,y1,y2,y3,y4,y5,y6,y7,y8,y9,y10,y11,y12,y13],_=>
     have hx1:=congrArg Prod.fst hx;exact⟨c0,c1,c2,c3,c4,c5,c6,c7,c8,c9,c10,c11,c12,c13,y0,y1,y2,y3,y4,y5,y6,y7,y8,y9,y10,y11,y12,y13,n,rfl,by simpa using hx1,by simpa[Value.cells,o0,k0] using hg 0 f0 rfl,by simpa[Value.cells,o1,k1] using hg 1 f1 rfl,by simpa[Value.cells,o2,k2] using hg 2 f2 rfl,by simpa[Value.cells,o3,k3] using hg 3 f3 rfl,by simpa[Value.cells,o4,k4] using hg 4 f4 rfl,by simpa[Value.cells,o5,k5] using hg 5 f5 rfl,by simpa[Value.cells,o6,k6] using hg 6 f6 rfl,by simpa[Value.cells,o7,k7] using hg 7 f7 rfl,by simpa[Value.cells,o8,k8] using hg 8 f8 rfl,by simpa[Value.cells,o9,k9] using hg 9 f9 rfl,by simpa[Value.cells,o10,k10] using hg 10 f10 rfl,by simpa[Value.cells,o11,k11] using hg 11 f11 rfl,by simpa[Value.cells,o12,k12] using hg 12 f12 rfl,by simpa[Value.cells,o13,k13] using hg 13 f13 rfl⟩
end
theorem Kb {P:Program}{w:World}{r:Reach}{base:Nat}{t e:TypeId}{a:Option Addr}{n c:Nat}(ht:P.underlying t=some (.slice e))(h:Cell.okWide P w r base t (.slice a n c)):zx (.slice a n c):=by
 simp only[ht,Cell.okWide,Cell.ok]at h
 cases a with
 | none=>
   left
   split at h
   all_goals first | (cases h;done) | simp_all
 | some a=>
   obtain⟨b,off,spot⟩:=a;simp only at h;obtain⟨_,_,hh⟩:=h;have hs:spot=none:=hh.2.1;subst hs;exact .inr ⟨b,off,n,c,rfl⟩
theorem msg_types:Tryz.prog.cellTypes Tryz.prog.depth 33=some [3,4,3,4,4,4,4,4,4,3,30,31,31,31]:=by kernel_rfl
section
variable {H:Type}{enc:TypeId×Value->H}{W:World}{spare:Nat->Bool}{held:Bool}
theorem open_msg_cells {cs:List Value}{fuel:Nat}{x:DataW H×List MemPlace}{r:Reach}{b0:Nat}(hsz:cs.length=14)(hf:DataW.trod enc Tryz.prog W 0 spare held fuel 33 cs=some x)
 (hform:∀(j:Nat) (v:Value) (u:TypeId),cs[j]? =some v->[3,4,3,4,4,4,4,4,4,3,30,31,31,31][j]? =some u->Cell.okWide Tryz.prog W r b0 u v):
 ∃(M:Msg) (q a u d:Value),cs=yT M.h q a u d/\KJ W M q a u d/\M.qs.length<=Rows.uptoBulk x.1/\M.an.length<=Rows.uptoBulk x.1/\M.au.length<=Rows.uptoBulk x.1/\M.ad.length<=Rows.uptoBulk x.1/\
  (∀y∈M.qs,(Lit.int .i64 y.typ).wf=true/\y.name.size<=Rows.uptoBulk x.1)/\(∀y∈M.an,(Lit.int .i64 y.typ).wf=true/\y.owner.size<=Rows.uptoBulk x.1)/\(∀y∈M.au,(Lit.int .i64 y.typ).wf=true/\y.owner.size<=Rows.uptoBulk x.1)/\(∀y∈M.ad,(Lit.int .i64 y.typ).wf=true/\y.owner.size<=Rows.uptoBulk x.1)/\
  zx q/\zx a/\zx u/\zx d/\(Lit.int .i64 M.h.id).wf=true/\(Lit.int .i64 M.h.op).wf=true/\(Lit.int .i64 M.h.yL).wf=true:=by
 obtain⟨v0,v1,v2,v3,v4,v5,v6,v7,v8,v9,v10,v11,v12,v13,y0,y1,y2,y3,y4,y5,y6,y7,y8,y9,y10,y11,y12,y13,n,rfl,hx,t0,t1,t2,t3,t4,t5,t6,t7,t8,t9,t10,t11,t12,t13⟩:=open_agg14 Tryz.underlying33 (by kernel_rfl) hsz hf;obtain⟨i0,e0,_,wf0⟩:=DataW.trod_int Tryz.underlying3 t0;obtain⟨i1,e1,_⟩:=DataW.trod_bool Tryz.underlying4 t1;obtain⟨i2,e2,_,wf2⟩:=DataW.trod_int Tryz.underlying3 t2;obtain⟨i3,e3,_⟩:=DataW.trod_bool Tryz.underlying4 t3;obtain⟨i4,e4,_⟩:=DataW.trod_bool Tryz.underlying4 t4;obtain⟨i5,e5,_⟩:=DataW.trod_bool Tryz.underlying4 t5;obtain⟨i6,e6,_⟩:=DataW.trod_bool Tryz.underlying4 t6;obtain⟨i7,e7,_⟩:=DataW.trod_bool Tryz.underlying4 t7;obtain⟨i8,e8,_⟩:=DataW.trod_bool Tryz.underlying4 t8;obtain⟨i9,e9,_,wf9⟩:=DataW.trod_int Tryz.underlying3 t9;obtain⟨a10,c10,qs,e10,n10,r10,k10⟩:=open_asks t10;obtain⟨a11,c11,l11,e11,_,r11,k11⟩:=xS t11;obtain⟨a12,c12,l12,e12,_,r12,k12⟩:=xS t12;obtain⟨a13,c13,l13,e13,_,r13,k13⟩:=xS t13;simp only[List.cons.injEq,and_true]at e0 e1 e2 e3 e4 e5 e6 e7 e8 e9;subst e0 e1 e2 e3 e4 e5 e6 e7 e8 e9 e10 e11 e12 e13;obtain⟨n11,z11⟩:=xR t11 r11;obtain⟨n12,z12⟩:=xR t12 r12;obtain⟨n13,z13⟩:=xR t13 r13;have b10:Rows.uptoBulk y10.1<=Rows.uptoBulk x.1:=by rw[hx];exact uq.xY (by simp)
 have b11:Rows.uptoBulk y11.1<=Rows.uptoBulk x.1:=by rw[hx];exact uq.xY (by simp)
 have b12:Rows.uptoBulk y12.1<=Rows.uptoBulk x.1:=by rw[hx];exact uq.xY (by simp)
 have b13:Rows.uptoBulk y13.1<=Rows.uptoBulk x.1:=by rw[hx];exact uq.xY (by simp)
 refine⟨⟨⟨i0,i1,i2,i3,i4,i5,i6,i7,i8,i9⟩,qs,l11,l12,l13⟩,_,_,_,_,rfl,⟨r10,r11,r12,r13⟩,gQ n10 b10,gQ n11 b11,gQ n12 b12,gQ n13 b13,
  λy hy=>⟨(k10 y hy).1,gQ (k10 y hy).2 b10⟩,λy hy=>⟨k11 y hy,gQ (z11 y hy) b11⟩,λy hy=>⟨k12 y hy,gQ (z12 y hy) b12⟩,λy hy=>⟨k13 y hy,gQ (z13 y hy) b13⟩,
  Kb Tryz.underlying30 (hform 10 _ _ rfl rfl),Kb Tryz.underlying31 (hform 11 _ _ rfl rfl),Kb Tryz.underlying31 (hform 12 _ _ rfl rfl),Kb Tryz.underlying31 (hform 13 _ _ rfl rfl),wf0,wf2,wf9⟩
theorem open_msg {v:Value}{d:DataW H}{p:List MemPlace}{r:Reach}{b0:Nat}(hv:Value.okWide Tryz.prog W r b0 33 v)(h:DataW.Trod enc Tryz.prog W 0 spare held 33 v d p)(hb:Rows.uptoBulk d<=1048576):
 ∃(M:Msg) (q a u d:Value),v=yu M.h q a u d/\KJ W M q a u d/\MsgFit M q a u d/\
  (∀y∈M.qs,(Lit.int .i64 y.typ).wf=true/\y.name.size<=1099511627776)/\(∀y∈M.an,(Lit.int .i64 y.typ).wf=true/\y.owner.size<=1099511627776)/\(∀y∈M.au,(Lit.int .i64 y.typ).wf=true/\y.owner.size<=1099511627776)/\(∀y∈M.ad,(Lit.int .i64 y.typ).wf=true/\y.owner.size<=1099511627776)/\
  (Lit.int .i64 M.h.id).wf=true/\(Lit.int .i64 M.h.op).wf=true/\(Lit.int .i64 M.h.yL).wf=true:=by
 simp only[Value.okWide,Tryz.underlying33]at hv;obtain⟨cs,rfl,hsz,ts,ht,_,hts⟩:=hv;rw[msg_types]at ht;simp only[gM]at ht;subst ht;have hC:Tryz.prog.cellsOf 33=14:=by kernel_rfl
 rw[hC]at hsz;obtain⟨l⟩:=cs;obtain⟨fuel,hf⟩:=h;have hl:l.length=14:=hsz
 obtain⟨M,q,a,u,d',e,hin,n1,n2,n3,n4,s1,s2,s3,s4,g1,g2,g3,g4,w1,w2,w3⟩:=open_msg_cells (r:=r) (b0:=b0) hl hf (λj v u hv hu=>by
  obtain⟨u',hu',hk⟩:=hts j v (by simpa using hv);have hj:j<14:=by
   have:=(List.getElem?_eq_some_iff.1 hv).1;omega
  have hm:j % 14=j:=Nat.mod_eq_of_lt hj;have hu2:_:=hu';simp only[Ha,List.length_nil,Nat.reduceAdd,hm]at hu2;rw[hu]at hu2;obtain rfl:=Hr hu2;exact hk)
 subst e;have hb':Rows.uptoBulk (d,p).1<=1048576:=hb;refine⟨M,q,a,u,d',rfl,hin,⟨by omega,by omega,by omega,by omega,g1,g2,g3,g4⟩,λy hy=>⟨(s1 y hy).1,?_⟩,λy hy=>⟨(s2 y hy).1,?_⟩,λy hy=>⟨(s3 y hy).1,?_⟩,λy hy=>⟨(s4 y hy).1,?_⟩,w1,w2,w3⟩
 ·have:=(s1 y hy).2;omega
 ·have:=(s2 y hy).2;omega
 ·have:=(s3 y hy).2;omega
 ·have:=(s4 y hy).2;omega
end
structure MsgFitA (M:Msg)(q a u d:Value):Prop where
 nq:M.qs.length<=1048576
 na:M.an.length<=1048576
 nu:M.au.length<=1048576
 nd:M.ad.length<=1048576
 fq:yn q
 fa:yn a
 fu:yn u
 fd:yn d
 sq:∀y∈M.qs,(Lit.int .i64 y.typ).wf=true/\y.name.size<=1099511627776
 sa:∀y∈M.an,(Lit.int .i64 y.typ).wf=true/\y.owner.size<=1099511627776
 su:∀y∈M.au,(Lit.int .i64 y.typ).wf=true/\y.owner.size<=1099511627776
 sd:∀y∈M.ad,(Lit.int .i64 y.typ).wf=true/\y.owner.size<=1099511627776
def YY (w:World)(v:Value)(l:List Msg):Prop:=∃ao cap,v= .slice ao l.length cap/\l.length<=cap/\
 ∀k (hk:k<l.length),∃b off q a u d,ao=some ⟨b,off,none⟩/\b<w.heap.size/\(∀j x,(yT l[k].h q a u d)[j]? =some x->w.cell? ⟨b,off+k*14+j,none⟩=some x)/\KJ w l[k] q a u d/\MsgFitA l[k] q a u d
theorem YY.below {w w':World}{v:Value}{l:List Msg}(h:YY w v l)(hB:Below w.heap.size w w'):YY w' v l:=by
 obtain⟨ao,cap,h1,h2,h3⟩:=h;refine⟨ao,cap,h1,h2,λk hk=>?_⟩;obtain⟨b,off,q,a,u,d,e,hb,hc,hi,hf⟩:=h3 k hk;exact⟨b,off,q,a,u,d,e,gN hb hB.size,λj x hx=>(hB.cell (p:=⟨b,_,none⟩) hb).trans (hc j x hx),hi.below hB,hf⟩
section
variable {H:Type}{enc:TypeId×Value->H}{W:World}{spare:Nat->Bool}{held:Bool}
theorem Ye {t e:TypeId}{fuel:Nat}{v:Value}{x:DataW H×List MemPlace}(ht:Tryz.prog.underlying t=some (.slice e))(h:DataW.trod enc Tryz.prog W 0 spare held fuel t [v]=some x):yn v:=by
 rcases open_slice ht h with⟨h0,_⟩|⟨a,len,cap,m,n,D,Pl,hcs,_⟩
 ·simp only[List.cons.injEq,and_true]at h0;exact .inl h0
 ·simp only[List.cons.injEq,and_true]at hcs;exact .inr ⟨a,len,cap,hcs⟩
def rowsN (l:List Msg):Nat:=(l.flatMap λm=>m.an).length
theorem rowsN_le (D:Nat->DataW H):∀(l:List Msg) (n:Nat),l.length<=n->(∀i M,l[i]? =some M->M.an.length<=Rows.uptoBulk (D i))->rowsN l<=Rows.uptoBulkAll ((List.range n).map D):=by
 intro l
 induction l generalizing D with
 | nil=>intro n _ _;exact gU _
 | cons M r ih=>
   intro n hn h;obtain⟨m,rfl⟩:∃m,n=m+1:=⟨n-1,by simp only[Ha]at hn;omega⟩;rw[List.range_succ_eq_map,List.map_cons,List.map_map];have h1:=ih (D ∘Nat.succ) m (by simp only[Ha]at hn;omega) λi M h2=>h (i+1) M h2;have h2:=h 0 M rfl;have h3:rowsN (M :: r)=M.an.length+rowsN r:=by unfold rowsN;rw[List.flatMap_cons,gK]
   simp only[Rows.uptoBulkAll];omega
theorem open_msgsB {fuel:Nat}{v:Value}{x:DataW H×List MemPlace}(hf:DataW.trod enc Tryz.prog W 0 spare held fuel 23 [v]=some x)(hb:Rows.uptoBulk x.1<=1048576):
 ∃ao cap l,v= .slice ao (l:List Msg).length cap/\l.length<=1048576/\YY W (.slice ao l.length cap) l/\rowsN l<=1048576:=by
 rcases ui Tryz.underlying23 Tryz.underlying33 (by kernel_rfl) (by kernel_rfl) hf with⟨hcs,_⟩|⟨ad,len,cap,m,D,Pl,hcs,hbb,hl,hm,hmm,hx,hi⟩
 ·simp only[List.cons.injEq,and_true]at hcs;exact⟨none,0,[],hcs,by simp,⟨none,0,rfl,gI _,λk hk=>absurd hk (Nat.not_lt_zero _)⟩,gU _⟩
 ·simp only[List.cons.injEq,and_true]at hcs;have hnm:len<=m:=by rw[hmm];split <;> omega
  have hlb:len<=1048576:=by
   have h1:=uq.Vt ((List.range len).map D) ((List.range (m-len)).map λj=>D (len+j));rw[List.length_map,List.length_range]at h1;rw[hx]at hb;exact gQ h1 hb
  have hD:∀i,i<len->Rows.uptoBulk (D i)<=1048576:=λi hi=>by
   have h1:Rows.uptoBulk (D i)<=Rows.uptoBulkAll ((List.range len).map D):=uq.part_le (List.mem_map.2 ⟨i,List.mem_range.2 hi,rfl⟩);rw[hx]at hb;simp only[Rows.uptoBulk]at hb;omega
  obtain⟨l,h1,h2⟩:=list_of (P:=λi (M:Msg)=>∃q a u d,(∀j x,(yT M.h q a u d)[j]? =some x->W.cell? (ad.add (i*14+j))=some x)/\KJ W M q a u d/\MsgFitA M q a u d/\M.an.length<=Rows.uptoBulk (D i)) len (λi hin=>by
   obtain⟨ys,k,hDi,_,_,hf⟩:=hi i (by omega);have hDb:=hD i hin;have hDe:=hDi;rw[hDi]at hDb;obtain⟨v0,y0,c0,g0,t0⟩:=hf 0 _ rfl;obtain⟨v1,y1,c1,g1,t1⟩:=hf 1 _ rfl;obtain⟨v2,y2,c2,g2,t2⟩:=hf 2 _ rfl;obtain⟨v3,y3,c3,g3,t3⟩:=hf 3 _ rfl;obtain⟨v4,y4,c4,g4,t4⟩:=hf 4 _ rfl;obtain⟨v5,y5,c5,g5,t5⟩:=hf 5 _ rfl;obtain⟨v6,y6,c6,g6,t6⟩:=hf 6 _ rfl;obtain⟨v7,y7,c7,g7,t7⟩:=hf 7 _ rfl;obtain⟨v8,y8,c8,g8,t8⟩:=hf 8 _ rfl;obtain⟨v9,y9,c9,g9,t9⟩:=hf 9 _ rfl;obtain⟨v10,y10,c10,g10,t10⟩:=hf 10 _ rfl;obtain⟨v11,y11,c11,g11,t11⟩:=hf 11 _ rfl;obtain⟨v12,y12,c12,g12,t12⟩:=hf 12 _ rfl;obtain⟨v13,y13,c13,g13,t13⟩:=hf 13 _ rfl;obtain⟨i0,e0,_,_⟩:=DataW.trod_int Tryz.underlying3 t0;obtain⟨i1,e1,_⟩:=DataW.trod_bool Tryz.underlying4 t1;obtain⟨i2,e2,_,_⟩:=DataW.trod_int Tryz.underlying3 t2;obtain⟨i3,e3,_⟩:=DataW.trod_bool Tryz.underlying4 t3;obtain⟨i4,e4,_⟩:=DataW.trod_bool Tryz.underlying4 t4;obtain⟨i5,e5,_⟩:=DataW.trod_bool Tryz.underlying4 t5;obtain⟨i6,e6,_⟩:=DataW.trod_bool Tryz.underlying4 t6;obtain⟨i7,e7,_⟩:=DataW.trod_bool Tryz.underlying4 t7;obtain⟨i8,e8,_⟩:=DataW.trod_bool Tryz.underlying4 t8;obtain⟨i9,e9,_,_⟩:=DataW.trod_int Tryz.underlying3 t9;have fa10:=Ye Tryz.underlying30 t10;have b10:Rows.uptoBulk y10.1<=1048576:=gQ (uq.xY (List.mem_map.2 ⟨y10,List.mem_of_getElem? g10,rfl⟩)) hDb;have fa11:=Ye Tryz.underlying31 t11;have b11:Rows.uptoBulk y11.1<=1048576:=gQ (uq.xY (List.mem_map.2 ⟨y11,List.mem_of_getElem? g11,rfl⟩)) hDb;have fa12:=Ye Tryz.underlying31 t12;have b12:Rows.uptoBulk y12.1<=1048576:=gQ (uq.xY (List.mem_map.2 ⟨y12,List.mem_of_getElem? g12,rfl⟩)) hDb;have fa13:=Ye Tryz.underlying31 t13;have b13:Rows.uptoBulk y13.1<=1048576:=gQ (uq.xY (List.mem_map.2 ⟨y13,List.mem_of_getElem? g13,rfl⟩)) hDb;obtain⟨a10,c10',qs,e10,n10,r10,k10⟩:=open_asks t10;obtain⟨a11,c11',l11,e11,_,r11,k11⟩:=xS t11;obtain⟨a12,c12',l12,e12,_,r12,k12⟩:=xS t12;obtain⟨a13,c13',l13,e13,_,r13,k13⟩:=xS t13;simp only[List.cons.injEq,and_true]at e0 e1 e2 e3 e4 e5 e6 e7 e8 e9;subst e0 e1 e2 e3 e4 e5 e6 e7 e8 e9 e10 e11 e12 e13;obtain⟨n11,z11⟩:=xR t11 r11;obtain⟨n12,z12⟩:=xR t12 r12;obtain⟨n13,z13⟩:=xR t13 r13;refine⟨⟨⟨i0,i1,i2,i3,i4,i5,i6,i7,i8,i9⟩,qs,l11,l12,l13⟩,_,_,_,_,?_,⟨r10,r11,r12,r13⟩,⟨gQ n10 b10,gQ n11 b11,gQ n12 b12,gQ n13 b13,fa10,fa11,fa12,fa13,λy hy=>⟨(k10 y hy).1,by have:=(k10 y hy).2;omega⟩,λy hy=>⟨k11 y hy,by have:=z11 y hy;omega⟩,λy hy=>⟨k12 y hy,by have:=z12 y hy;omega⟩,λy hy=>⟨k13 y hy,by have:=z13 y hy;omega⟩⟩,by rw[hDe];exact gQ n11 (uq.xY (List.mem_map.2 ⟨y11,List.mem_of_getElem? g11,rfl⟩))⟩;intro j x hx
   match j,hx with
   | 0,hx=>obtain rfl:=Hr hx;exact c0
   | 1,hx=>obtain rfl:=Hr hx;exact c1
   | 2,hx=>obtain rfl:=Hr hx;exact c2
   | 3,hx=>obtain rfl:=Hr hx;exact c3
   | 4,hx=>obtain rfl:=Hr hx;exact c4
   | 5,hx=>obtain rfl:=Hr hx;exact c5
   | 6,hx=>obtain rfl:=Hr hx;exact c6
   | 7,hx=>obtain rfl:=Hr hx;exact c7
   | 8,hx=>obtain rfl:=Hr hx;exact c8
   | 9,hx=>obtain rfl:=Hr hx;exact c9
   | 10,hx=>obtain rfl:=Hr hx;exact c10
   | 11,hx=>obtain rfl:=Hr hx;exact c11
   | 12,hx=>obtain rfl:=Hr hx;exact c12
   | 13,hx=>obtain rfl:=Hr hx;exact c13
   | j+14,hx=>cases hx)
  refine⟨some ad,cap,l,by rw[hcs,h1],by omega,⟨some ad,cap,rfl,by omega,λk hk=>?_⟩,?_⟩
  rotate_left
  ·have h3:=rowsN_le D l len (by omega) λi M hi=>(h2 i M hi).elim λ_ h=>h.elim λ_ h=>h.elim λ_ h=>h.elim λ_ h=>h.2.2.2;rw[hx]at hb;simp only[Rows.uptoBulk]at hb;omega
  obtain⟨q,a,u,d,hc,hin,hfit,-⟩:=h2 k _ (List.getElem?_eq_getElem hk);obtain⟨b,off,spot⟩:=ad;have c0:=hc 0 _ rfl;have hspot:spot=none:=by
   have hk0:0<l.length:=by omega
   obtain⟨_,_,_,_,hc0,_⟩:=h2 0 _ (List.getElem?_eq_getElem hk0);have h9:=World.cell?_spot (hc0 0 _ rfl)
   simpa[Addr.add] using h9
  subst hspot;refine⟨b,off,q,a,u,d,rfl,World.block_lt_of_cell? _ _ (by rw[Addr.add_lit]at c0;exact c0),λj x hx=>?_,hin,hfit⟩;have:=hc j x hx;rw[Addr.add_lit]at this;rw[Nat.add_assoc];exact this
end
end Go.Proofs.YtpcmilhjpmlbpaaGreatDoor
namespace Go.Proofs.YtpcmilhjpmlbpaaGreatDoor
open Go.RowKit Go.Shelf nm od
structure Tw where
 m:Msg
 q:Value
 ga:Nat
 ca:Nat
 gu:Nat
 cu:Nat
 gd:Nat
 cd:Nat
@[reducible] def twC (t:Tw):List Value:=yT t.m.h t.q (.slice (some ⟨t.ga,0,none⟩) t.m.an.length t.ca) (.slice (some ⟨t.gu,0,none⟩) t.m.au.length t.cu) (.slice (some ⟨t.gd,0,none⟩) t.m.ad.length t.cd)
def twsC (T:List Tw):List Value:=T.flatMap twC
theorem twsC_app (T:List Tw)(t:Tw):twsC (T ++ [t])=twsC T ++ twC t:=by unfold twsC;simp
theorem twsC_get:∀(T:List Tw) (k:Nat) (hk:k<T.length) (j:Nat) (x:Value),(twC T[k])[j]? =some x->(twsC T)[k*14+j]? =some x
 | p :: P,0,_,j,x,hx=>by
   unfold twsC;rw[List.flatMap_cons,Nat.zero_mul,Nat.zero_add,List.getElem?_append_left (by simpa using (List.getElem?_eq_some_iff.1 hx).1)];exact hx
 | p :: P,k+1,hk,j,x,hx=>by
   have h1:=twsC_get P k (by simpa using hk) j x hx;unfold twsC at h1 ⊢;rw[List.flatMap_cons,List.getElem?_append_right (by simp;omega)];rw[show(k+1)*14+j-(twC p).length=k*14+j by simp;omega];exact h1
def Tw.has (t:Tw)(b:Nat):Prop:=t.q.ownBlock=some b\/b=t.ga\/b=t.gu\/b=t.gd
structure Uh (w:World)(base:Nat)(t:Tw):Prop where
 q:w.ownsRow base 78 3 t.q t.m.qs.length (xg t.m.qs)
 a:zZ w base t.ga t.ca t.m.an
 u:zZ w base t.gu t.cu t.m.au
 d:zZ w base t.gd t.cd t.m.ad
section
variable {w w':World}{base:Nat}{t:Tw}{T:List Tw}{v:Value}
theorem Uh.lt (h:Uh w base t){b:Nat}(hb:t.has b):base<=b/\b<w.heap.size:=by
 rcases hb with hb | rfl | rfl | rfl
 ·exact h.q.lt b hb
 ·exact h.a.lt
 ·exact h.u.lt
 ·exact h.d.lt
theorem Uh.keep (h:Uh w base t)(hk:∀b,t.has b->w'.heap[b]? =w.heap[b]?):Uh w' base t:=
 ⟨qm h.q λb hb=>hk b (.inl hb),h.a.QR (hk _ (.inr (.inl rfl))),h.u.QR (hk _ (.inr (.inr (.inl rfl)))),h.d.QR (hk _ (.inr (.inr (.inr rfl))))⟩
theorem Uh.QK {base':Nat}(h:Uh w base t)(hb:base'<=base):Uh w base' t:=⟨qK h.q hb,h.a.QK hb,h.u.QK hb,h.d.QK hb⟩
theorem Uh.below (h:Uh w base t)(hB:Below w.heap.size w w'):Uh w' base t:=h.keep λb hb=>hB.block b (h.lt hb).2
structure YG (w:World)(base:Nat)(v:Value)(T:List Tw):Prop where
 row:w.ownsRow base 33 14 v T.length (twsC T)
 ok:∀t∈T,Uh w base t
 far:∀t∈T,∀b,t.has b->v.ownBlock≠some b
theorem YG.below (h:YG w base v T)(hB:Below w.heap.size w w'):YG w' base v T:=⟨ownsRow_below h.row hB,λt ht=>(h.ok t ht).below hB,h.far⟩
theorem twRow_nil (w:World)(base:Nat):YG w base (.slice none 0 0) []:=⟨gZ _ _ _ _,λ_ h=>absurd h (by simp),λ_ h=>absurd h (by simp)⟩
theorem Vm {ops:Array Oper}{rest:List Oper}{o:Oper}{a:Act}{Q:Exit->Act->World->Prop}(hgd:o.guard=none)(s x:Operand)
 (ho:o.op= .call { callee:=.builtin .append,args:=#[s,x],argTypes:=#[23,23]})
 (hs:a.eval s=v) (hr:YG w base v T) (ht:Uh w base t) (hf:∀b,t.has b->v.ownBlock≠some b) (g:Nat) (hx:a.eval x= .slice (some ⟨g,0,none⟩) 1 1)
 (hc:∀j u,(twC t)[j]? =some u->w.cell? ((⟨g,0,none⟩:Addr).add j)=some u) (hl:T.length<=1048576) (hbase:base<=w.heap.size)
 (h:∀v' w',YG w' base v' (T ++ [t])->w.grownBy w' v.ownBlock->wpList Tryz.prog ops Q rest (a.put o.dst v') w'):wpList Tryz.prog ops Q (o :: rest) a w:=by
 obtain⟨i0,hi0,hz0,hz1,hz2⟩:=Qo info_msg7;obtain⟨qa,qc,hq,-⟩:=qj ht.q;refine qW w hgd s x 23 ho base 33 i0 (yu hd0 (.slice none 0 0) (.slice none 0 0) (.slice none 0 0) (.slice none 0 0)) 14 136 Tryz.underlying23 hi0 hz0 hz1 hz2 rfl (by decide) v T.length (twsC T) hs hr.row ⟨g,0,none⟩ 1 1 (twC t) hx rfl hc (by simp[hq,Value.oneCell']) (by unfold maxLen;omega) (by omega) hbase λv' w' h1 h2 h3=>?_;refine h v' w' ⟨?_,λp hp=>?_,λp hp b hb e=>?_⟩ h2
 ·rw[twsC_app,gK,gT];exact h1
 ·rcases List.mem_append.1 hp with hp | hp
  ·exact(hr.ok p hp).keep λb hb=>h2.block b ((hr.ok p hp).lt hb).2 (λe=>hr.far p hp b hb e.symm)
  ·obtain rfl:=List.mem_singleton.1 hp;exact ht.keep λb hb=>h2.block b (ht.lt hb).2 (λe=>hf b hb e.symm)
 ·have h4:=h3 b e;rcases List.mem_append.1 hp with hp | hp
  ·rcases h4 with h4 | h4
   ·exact hr.far p hp b hb h4
   ·have:=((hr.ok p hp).lt hb).2;omega
  ·obtain rfl:=List.mem_singleton.1 hp;rcases h4 with h4 | h4
   ·exact hf b hb h4
   ·have:=(ht.lt hb).2;omega
theorem YG.raw (h:YG w base v T){k:Nat}(hk:k<T.length):∃g cap,v= .slice (some ⟨g,0,none⟩) T.length cap/\g<w.heap.size/\∀(j:Nat) (x:Value),(twC T[k])[j]? =some x->w.cell? ⟨g,0+k*14+j,none⟩=some x:=by
 rcases h.row.2 with⟨_,h1⟩|⟨g,cap,cur,hv,hb,hg,rest⟩
 ·omega
 ·refine⟨g,cap,hv,(Array.getElem?_eq_some_iff.1 hg).1,λj x hx=>?_⟩;have h3:=h.row.cells (g:=g) (by rw[hv];rfl) (k*14+j) x (twsC_get T k hk j x hx);rw[Addr.add_lit,Nat.zero_add]at h3;rw[Nat.zero_add];exact h3
theorem YG.get (h:YG w base v T){k:Nat}(hk:k<T.length):∃g off cap,v= .slice (some ⟨g,off,none⟩) T.length cap/\
 (w.cell? ⟨g,off+k*14,none⟩=some (.int .i64 T[k].m.h.id)/\w.cell? ⟨g,off+k*14+1,none⟩=some (.bool T[k].m.h.KW)/\w.cell? ⟨g,off+k*14+2,none⟩=some (.int .i64 T[k].m.h.op)/\w.cell? ⟨g,off+k*14+3,none⟩=some (.bool T[k].m.h.aa)/\w.cell? ⟨g,off+k*14+4,none⟩=some (.bool T[k].m.h.tc)/\w.cell? ⟨g,off+k*14+5,none⟩=some (.bool T[k].m.h.rd)/\w.cell? ⟨g,off+k*14+6,none⟩=some (.bool T[k].m.h.ra)/\w.cell? ⟨g,off+k*14+7,none⟩=some (.bool T[k].m.h.ad)/\w.cell? ⟨g,off+k*14+8,none⟩=some (.bool T[k].m.h.cd)/\w.cell? ⟨g,off+k*14+9,none⟩=some (.int .i64 T[k].m.h.yL)/\w.cell? ⟨g,off+k*14+10,none⟩=some T[k].q/\w.cell? ⟨g,off+k*14+11,none⟩=some (.slice (some ⟨T[k].ga,0,none⟩) T[k].m.an.length T[k].ca)/\w.cell? ⟨g,off+k*14+12,none⟩=some (.slice (some ⟨T[k].gu,0,none⟩) T[k].m.au.length T[k].cu)/\w.cell? ⟨g,off+k*14+13,none⟩=some (.slice (some ⟨T[k].gd,0,none⟩) T[k].m.ad.length T[k].cd)):=by
 obtain⟨g,cap,hv,-,hc⟩:=h.raw hk;exact⟨g,0,cap,hv,hc 0 _ rfl,hc 1 _ rfl,hc 2 _ rfl,hc 3 _ rfl,hc 4 _ rfl,hc 5 _ rfl,hc 6 _ rfl,hc 7 _ rfl,hc 8 _ rfl,hc 9 _ rfl,hc 10 _ rfl,hc 11 _ rfl,hc 12 _ rfl,hc 13 _ rfl⟩
theorem YG.msgs (h:YG w base v T)(hb:∀t∈T,t.m.qs.length<=1000000000000/\t.m.an.length<=1000000000000/\t.m.au.length<=1000000000000/\t.m.ad.length<=1000000000000):uf w v (T.map (·.m)):=by
 obtain⟨a,cap,hv,hcap⟩:=qj h.row;refine⟨a,cap,by rw[List.length_map];exact hv,by rw[List.length_map];exact hcap,λk hk=>?_⟩;rw[List.length_map]at hk;obtain⟨g,cap',hv',hg,hc⟩:=h.raw hk;rw[hv]at hv';simp only[gL]at hv';have hm:=Ht hk;have ht:=h.ok _ hm;refine⟨g,0,T[k].q,_,_,_,hv'.1,hg,λj x hx=>hc j x (by rw[List.getElem_map]at hx;exact hx),?_,by rw[List.getElem_map];exact hb _ hm⟩;rw[List.getElem_map];exact⟨UF ht.q,ht.a.recs,ht.u.recs,ht.d.recs⟩
end
theorem YY.row {w:World}{v:Value}{l:List Msg}(h:YY w v l):uf w v l:=by
 obtain⟨ao,cap,h1,h2,h3⟩:=h;refine⟨ao,cap,h1,h2,λk hk=>?_⟩;obtain⟨b,off,q,a,u,d,e,hb,hc,hi,hf⟩:=h3 k hk;exact⟨b,off,q,a,u,d,e,hb,hc,hi,by have:=hf.nq;omega,by have:=hf.na;omega,by have:=hf.nu;omega,by have:=hf.nd;omega⟩
theorem YY.fits {w:World}{v:Value}{l:List Msg}(h:YY w v l):∀m∈l,(m.qs.length<=1048576/\m.an.length<=1048576/\m.au.length<=1048576/\m.ad.length<=1048576)/\(∀y∈m.qs,y.name.size<=1099511627776)/\(∀y∈m.an,y.owner.size<=1099511627776)/\(∀y∈m.au,y.owner.size<=1099511627776)/\∀y∈m.ad,y.owner.size<=1099511627776:=by
 intro m hm;obtain⟨k,hk,rfl⟩:=List.getElem_of_mem hm;obtain⟨ao,cap,h1,h2,h3⟩:=h;obtain⟨b,off,q,a,u,d,e,hb,hc,hi,hf⟩:=h3 k hk;exact⟨⟨hf.nq,hf.na,hf.nu,hf.nd⟩,λy hy=>(hf.sq y hy).2,λy hy=>(hf.sa y hy).2,λy hy=>(hf.su y hy).2,λy hy=>(hf.sd y hy).2⟩
theorem rowsN_rows (l:List Msg):(tr.rowsOf l).length=rowsN l:=rfl
end Go.Proofs.YtpcmilhjpmlbpaaGreatDoor
