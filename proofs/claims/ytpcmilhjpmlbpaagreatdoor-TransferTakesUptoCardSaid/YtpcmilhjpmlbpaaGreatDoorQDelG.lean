import Derived.Test.YtpcmilhjpmlbpaaGreatDoorQTrQ
import Derived.Lib.SliceRun
set_option maxRecDepth 100000
set_option maxHeartbeats 4000000
namespace Go.Proofs.YtpcmilhjpmlbpaaGreatDoor
open Go.RowKit Go.Shelf nm od
namespace mk
@[reducible] def markR (j k:Nat):Rec:=⟨⟨#[109,97,114,107]⟩,-1000*(j:Int)-(k:Int)-1,0,0,⟨#[]⟩⟩
def marks (j n:Nat):List Rec:=(List.range n).map (markR j)
def upd {α:Type}(f:Nat->α)(j:Nat)(x:α):Nat->α:=λi=>if i=j then x else f i
theorem KN {α:Type}(f:Nat->α)(j:Nat)(x:α):upd f j x j=x:=by simp[upd]
theorem upd_ne {α:Type}(f:Nat->α){i j:Nat}(h:i≠j)(x:α):upd f j x i=f i:=by simp[upd,h]
end mk
theorem recsC_set (r:Rec):∀(l:List Rec) (k:Nat),k<l.length->
 ((((((qw l).set (k*5) (.string r.owner)).set (k*5+1) (.int .i64 r.typ)).set (k*5+2) (.int .i64 r.cls)).set (k*5+3) (.int .i64 r.ttl)).set (k*5+4) (.string r.data))=qw (l.set k r)
 | [],k,h=>by simp at h
 | a :: t,0,_=>by
   show((((((recC a ++ qw t).set (0*5) _).set (0*5+1) _).set (0*5+2) _).set (0*5+3) _).set (0*5+4) _)=recC r ++ qw t;simp
 | a :: t,k+1,h=>by
   have ih:=recsC_set r t k (by simpa using h);have e:qw (a :: t)= .string a.owner :: .int .i64 a.typ :: .int .i64 a.cls :: .int .i64 a.ttl :: .string a.data :: qw t:=rfl
   rw[List.set_cons_succ,e,show(k+1)*5=k*5+1+1+1+1+1 by omega,
    show k*5+1+1+1+1+1+1=k*5+1+1+1+1+1+1 from rfl,show k*5+1+1+1+1+1+2=k*5+2+1+1+1+1+1 from rfl,
    show k*5+1+1+1+1+1+3=k*5+3+1+1+1+1+1 from rfl,show k*5+1+1+1+1+1+4=k*5+4+1+1+1+1+1 from rfl]
   simp only[List.set_cons_succ];rw[ih];rfl
structure Tri (base:Nat)(P:Nat->Prop)(w:World)(lb mb:Nat)(mo:Obj)(V:Nat->Value)(X:Nat->List Rec):Prop where
 mem:w.heap[mb]? =some mo
 mne:mb≠lb
 mbase:base<=mb
 offm:∀j,j<3->(V j).ownBlock≠some mb
 blk:w.heap[lb]? =some (.cells #[V 0,V 1,V 2] 31 (0,0))
 from_:base<=lb
 row:∀j,j<3->w.ownsRow base 80 5 (V j) (X j).length (qw (X j))
 apart:∀i j g,i<3->j<3->i≠j->(V i).ownBlock=some g->(V j).ownBlock≠some g
 off_:∀j,j<3->(V j).ownBlock≠some lb
 np:∀j,j<3->∀b,(V j).ownBlock=some b->¬P b
 plt:∀b,P b->b<mb/\b<lb
theorem three {P:Nat->Prop}(h0:P 0)(h1:P 1)(h2:P 2):∀j,j<3->P j:=λj hj=>by
 match j,hj with
 | 0,_=>exact h0
 | 1,_=>exact h1
 | 2,_=>exact h2
section
variable {base lb mb:Nat}{P:Nat->Prop}{mo:Obj}{w w':World}{V:Nat->Value}{X X':Nat->List Rec}
theorem Tri.lt (h:Tri base P w lb mb mo V X):lb<w.heap.size:=qA h.blk
theorem Tri.cell (h:Tri base P w lb mb mo V X){j:Nat}(hj:j<3):w.cell? ⟨lb,j,none⟩=some (V j)/\w.frozen? ⟨lb,j,none⟩=false:=by
 refine⟨?_,qB h.blk j⟩;rw[qg h.blk];exact three (P:=λj=>(#[V 0,V 1,V 2]:Array Value)[j]? =some (V j)) rfl rfl rfl j hj
theorem Tri.congr (h:Tri base P w lb mb mo V X)(e:∀i,i<3->X i=X' i):Tri base P w lb mb mo V X':=
 ⟨h.mem,h.mne,h.mbase,h.offm,h.blk,h.from_,λj hj=>by rw[<- e j hj];exact h.row j hj,h.apart,h.off_,h.np,h.plt⟩
theorem Tri.keep (h:Tri base P w lb mb mo V X)(hk:∀b,base<=b->b<w.heap.size->w'.heap[b]? =w.heap[b]?):Tri base P w' lb mb mo V X:=
 ⟨(hk mb h.mbase (qA h.mem)).trans h.mem,h.mne,h.mbase,h.offm,(hk lb h.from_ h.lt).trans h.blk,h.from_,λj hj=>qm (h.row j hj) λb hb=>hk b ((h.row j hj).lt b hb).1 ((h.row j hj).lt b hb).2,h.apart,h.off_,h.np,h.plt⟩
theorem Tri.below (h:Tri base P w lb mb mo V X)(hb:Below w.heap.size w w'):Tri base P w' lb mb mo V X:=h.keep λb _ hb'=>hb.block b hb'
theorem Tri.grow {w1 w10:World}{o:Obj}(h:Tri base P w lb mb mo V X)(e1:w1=w.alloc o){j n:Nat}(hj:j<3)(hn:n=(X j).length)(r:Rec)(v':Value)
 (hown:w10.ownsRow base 80 5 v' (n+1) (qw (X j) ++ recC r)) (hg:w1.grownBy w10 (V j).ownBlock) (hnn:∀b,v'.ownBlock=some b->(V j).ownBlock=some b\/w1.heap.size<=b):
 Tri base P (w10.setCell ⟨lb,j,none⟩ v') lb mb mo (mk.upd V j v') (mk.upd X j (X j ++ [r])):=by
 have hs1:w1.heap.size=w.heap.size+1:=by rw[e1];simp
 have hl:=h.lt;have hkp:∀b,b<w.heap.size->(V j).ownBlock≠some b->w10.heap[b]? =w.heap[b]?:=λb hb hne=>
  (hg.block b (by omega) (λe=>hne e.symm)).trans (by rw[e1];exact Below.heap_alloc w o b hb)
 have hblk:=(hkp lb hl (h.off_ j hj)).trans h.blk;have hset:=qC hblk j v';have hset2:∀b,b≠lb->(w10.setCell ⟨lb,j,none⟩ v').heap[b]? =w10.heap[b]?:=λb hne=>gP _ _ _ _ hne;have hml:=qA h.mem;have hvm:v'.ownBlock≠some mb:=λe=>(hnn mb e).elim (h.offm j hj) (λh2=>by omega);have hvl:v'.ownBlock≠some lb:=λe=>(hnn lb e).elim (h.off_ j hj) (λh2=>by omega);refine⟨(hset2 mb h.mne).trans ((hkp mb hml (h.offm j hj)).trans h.mem),h.mne,h.mbase,λi hi=>?_,?_,h.from_,λi hi=>?_,λi k g hi hk hne hgi=>?_,λi hi=>?_,λi hi b hb hp=>?_,h.plt⟩
 ·by_cases e:i=j
  ·subst e;rw[mk.KN];exact hvm
  ·rw[mk.upd_ne _ e];exact h.offm i hi
 ·rw[hset];exact three (P:=λj=>some (Obj.cells ((#[V 0,V 1,V 2]:Array Value).setIfInBounds j v') 31 (0,0))=some (Obj.cells #[mk.upd V j v' 0,mk.upd V j v' 1,mk.upd V j v' 2] 31 (0,0))) rfl rfl rfl j hj
 ·by_cases e:i=j
  ·subst e;rw[mk.KN,mk.KN,gK,KX,<- hn];refine qm ?_ λb hb=>hset2 b (λe=>hvl (by rw[hb,e]))
   simpa[qw] using hown
  ·rw[mk.upd_ne _ e,mk.upd_ne _ e];refine qm (h.row i hi) λb hb=>?_;have hbl:=((h.row i hi).lt b hb).2;exact(hset2 b (λe2=>h.off_ i hi (by rw[hb,e2]))).trans (hkp b hbl (h.apart i j b hi hj e hb))
 ·by_cases e:i=j
  ·subst e;rw[mk.KN]at hgi;rw[mk.upd_ne _ (λx=>hne x.symm)];intro e2;rcases hnn g hgi with h2 | h2
   ·exact h.apart i k g hi hk hne h2 e2
   ·have:=((h.row k hk).lt g e2).2;omega
  ·rw[mk.upd_ne _ e]at hgi;by_cases e2:k=j
   ·subst e2;rw[mk.KN];intro e3;rcases hnn g e3 with h2 | h2
    ·exact h.apart i k g hi hk hne hgi h2
    ·have:=((h.row i hi).lt g hgi).2;omega
   ·rw[mk.upd_ne _ e2];exact h.apart i k g hi hk hne hgi
 ·by_cases e:i=j
  ·subst e;rw[mk.KN];exact hvl
  ·rw[mk.upd_ne _ e];exact h.off_ i hi
 ·by_cases e:i=j
  ·subst e;rw[mk.KN]at hb;rcases hnn b hb with h2 | h2
   ·exact h.np i hi b h2 hp
   ·have:=(h.plt b hp).2;omega
  ·rw[mk.upd_ne _ e]at hb;exact h.np i hi b hb hp
end
namespace df
def idx (p:Rec->Bool)(l:List Rec):Int:=match l.findIdx? p with | some k=>k | none=>-1
theorem Qp {p:Rec->Bool}{l:List Rec}(h:∀j (hj:j<l.length),p l[j]=false):idx p l= -1:=by
 unfold idx;rw[List.findIdx?_eq_none_iff.2];intro x hx;obtain⟨k,hk,rfl⟩:=List.getElem_of_mem hx;exact h k hk
theorem UT {p:Rec->Bool}{l:List Rec}{k:Nat}(hk:k<l.length)(h:∀j (hj:j<l.length),j<k->p l[j]=false)(h1:p l[k]=true):idx p l=k:=by
 unfold idx;rw[List.findIdx?_eq_some_iff_getElem.2 ⟨hk,h1,λj hj=>by rw[h j (by omega) hj];simp⟩]
def keep (p:Rec->Bool)(l:List Rec):List Rec:=l.filter λx=>!p x
theorem keep_all {p:Rec->Bool}{l:List Rec}(h:∀j (hj:j<l.length),p l[j]=false):keep p l=l:=by
 unfold keep;rw[List.filter_eq_self];intro x hx;obtain⟨k,hk,rfl⟩:=List.getElem_of_mem hx;rw[h k hk];rfl
theorem J9 {p:Rec->Bool}{l:List Rec}{j:Nat}(hj:j<l.length):keep p (l.take (j+1))=keep p (l.take j) ++ (if p l[j]=true then [] else [l[j]]):=by
 unfold keep;rw[gV hj,List.filter_append]
 cases h:p l[j] <;> simp[h]
def Under (p:Rec->Bool)(l:List Rec)(j:Nat)(M:List Rec):Prop:=M.length=l.length/\M.take (keep p (l.take j)).length=keep p (l.take j)/\M.drop j=l.drop j/\(keep p (l.take j)).length<j
theorem under_first {p:Rec->Bool}{l:List Rec}{k:Nat}(hk:k<l.length)(h:∀j (hj:j<l.length),j<k->p l[j]=false)(h1:p l[k]=true):Under p l (k+1) l/\(keep p (l.take (k+1))).length=k:=by
 have e:keep p (l.take k)=l.take k:=keep_all λj hj=>by
  rw[List.length_take]at hj;rw[List.getElem_take];exact h j (by omega) (by omega)
 have e2:keep p (l.take (k+1))=l.take k:=by rw[J9 hk,e,if_pos h1,List.append_nil]
 have e3:(l.take k).length=k:=by rw[List.length_take];omega
 refine⟨⟨rfl,?_,rfl,?_⟩,?_⟩
 ·rw[e2,e3]
 ·rw[e2,e3];omega
 ·rw[e2,e3]
theorem under_at {p:Rec->Bool}{l M:List Rec}{j:Nat}(h:Under p l j M)(hj:j<l.length)(hm:j<M.length):M[j]=l[j]:=by
 have hd:M.drop j=l.drop j:=h.2.2.1;have e:(M.drop j)[0]? =(l.drop j)[0]?:=by rw[hd]
 rw[List.getElem?_drop,List.getElem?_drop,Nat.add_zero,List.getElem?_eq_getElem hm,List.getElem?_eq_getElem hj]at e
 simpa using e
theorem under_drop {p:Rec->Bool}{l M:List Rec}{j:Nat}(h:Under p l j M)(hj:j<l.length)(hp:p l[j]=true):Under p l (j+1) M:=by
 have e:keep p (l.take (j+1))=keep p (l.take j):=by rw[J9 hj,if_pos hp,List.append_nil]
 refine⟨h.1,by rw[e];exact h.2.1,?_,by rw[e];have:=h.2.2.2;omega⟩;rw[<- List.drop_drop,<- List.drop_drop,h.2.2.1]
theorem under_keep {p:Rec->Bool}{l M:List Rec}{j:Nat}(h:Under p l j M)(hj:j<l.length)(hp:p l[j]=false):Under p l (j+1) (M.set (keep p (l.take j)).length l[j])/\(keep p (l.take (j+1))).length=(keep p (l.take j)).length+1:=by
 have e:keep p (l.take (j+1))=keep p (l.take j) ++ [l[j]]:=by rw[J9 hj,if_neg (by rw[hp];simp)]
 have hlt:=h.2.2.2;refine⟨⟨by rw[List.length_set];exact h.1,?_,?_,?_⟩,?_⟩
 ·rw[e,gK,Ha,List.length_nil,gV (by rw[List.length_set,h.1];omega),List.getElem_set_self,List.take_set_of_le (gI _),h.2.1]
 ·rw[List.drop_set_of_lt (by omega),<- List.drop_drop,<- List.drop_drop,h.2.2.1]
 ·rw[e,gK];simp;omega
 ·rw[e,gK];rfl
end df
abbrev vI:Rec:=⟨⟨#[]⟩,0,0,0,⟨#[]⟩⟩
theorem zeros_recs (n:Nat):(Builtin.zeroCells (recC vI).toArray n).toList=qw (List.replicate n vI):=by
 apply List.ext_getElem?;intro i;by_cases hi:i<n*5
 ·have h2:=recsC_at (List.replicate n vI) i (by rw[List.length_replicate];exact hi);rw[h2,List.getElem_replicate];have hs:(recC vI).toArray.size=5:=rfl;rw[List.getElem?_eq_getElem (by simp[Builtin.zeroCells];omega)];have h5:i % 5<5:=Nat.mod_lt _ (by omega);simp only[Builtin.zeroCells,hs,Array.toList_map,List.getElem_map,Array.getElem_toList,Array.getElem_range]
  exact(by
   have key:∀k,k<5->some ((recC vI).toArray[k]!)=(recC vI)[k]?:=λk hk=>by
    match k,hk with
    | 0,_=>rfl
    | 1,_=>rfl
    | 2,_=>rfl
    | 3,_=>rfl
    | 4,_=>rfl
   exact key _ h5)
 ·rw[List.getElem?_eq_none (by simp[Builtin.zeroCells];omega),List.getElem?_eq_none (by rw[zM,List.length_replicate];omega)]
theorem X9 (w:World)(ty:TypeId)(b o n c:Nat)(hn:0<n)(hc:∀j,j<n*5->(w.cell? ⟨b,o+j,none⟩).isSome=true)(hf:∀j,j<n*5->w.frozen? ⟨b,o+j,none⟩=false):
 (Builtin.clear_ #[31] ty #[.slice (some ⟨b,o,none⟩) n c]).run Tryz.prog w= .ok (.tuple #[]) (w.setCells b o (qw (List.replicate n vI))):=by
 have hl:(qw (List.replicate n vI)).length=n*5:=by rw[zM,List.length_replicate]
 have hst:=run_storeCells_cells (P:=Tryz.prog) b o (qw (List.replicate n vI)) 0 w (by rw[hl];simpa using hc) (by rw[hl];simpa using hf) (xe _);simp only[Nat.add_zero]at hst;have hz:∀w,(zeroValue 80).run Tryz.prog w= .ok (yf vI) w:=λw=>by kernel_rfl
 have hzc:(Builtin.zeroCells (yf vI).cells n).toList=qw (List.replicate n vI):=zeros_recs n;obtain⟨m,rfl⟩:∃m,n=m+1:=⟨n-1,by omega⟩;simp[Builtin.clear_,run_underlying Tryz.underlying31,hz,hzc,hst]
theorem recsC_take (l:List Rec):∀(m:Nat),(qw l).take (m*5)=qw (l.take m):=by
 induction l with
 | nil=>intro m;simp[qw]
 | cons a t ih=>
   intro m
   cases m with
   | zero=>rfl
   | succ m=>
     have e:qw (a :: t)= .string a.owner :: .int .i64 a.typ :: .int .i64 a.cls :: .int .i64 a.ttl :: .string a.data :: qw t:=rfl;rw[e,show(m+1)*5=m*5+1+1+1+1+1 by omega];simp only[List.take_succ_cons];rw[ih m];rfl
theorem VC {w:World}{base g n cap i:Nat}{M:List Rec}(h:w.ownsRow base 80 5 (.slice (some ⟨g,0,none⟩) n cap) n (qw M))(hi:i<n):
 (∀ty,(Builtin.clear_ #[31] ty #[.slice (some ⟨g,i*5,none⟩) (n-i) (cap-i)]).run Tryz.prog w= .ok (.tuple #[]) (w.setCells g (i*5) (qw (List.replicate (n-i) vI))))/\
 (w.setCells g (i*5) (qw (List.replicate (n-i) vI))).ownsRow base 80 5 (.slice (some ⟨g,0,none⟩) i cap) i (qw (M.take i))/\
 w.grownBy (w.setCells g (i*5) (qw (List.replicate (n-i) vI))) (some g):=by
 have hrl:(qw (List.replicate (n-i) vI)).length=(n-i)*5:=by rw[zM,List.length_replicate]
 have hml:(qw M).length=n*5:=h.1;rcases h.2 with⟨h0,_⟩|⟨g',cap',cur,hv,hb,hg,hn,hc,hz,hx⟩
 ·cases h0
 ·simp only[gL,gM,Addr.mk.injEq,and_true,true_and]at hv;obtain⟨rfl,rfl⟩:=hv;obtain⟨cur',h1,h2,h3,h4⟩:=Kw g 80 (qw (List.replicate (n-i) vI)) (i*5) cur w hg (by rw[hrl,hz];have:n*5<=cap*5:=Nat.mul_le_mul_right _ hn;omega);have hM:M.length=n:=by rw[zM]at hml;omega
  refine⟨λty=>X9 w ty g (i*5) (n-i) (cap-i) (by omega) (λj hj=>?_) (λj hj=>h.frozenAt _),⟨by rw[zM,List.length_take];omega,.inr ⟨g,cap,cur',rfl,hb,h1,by omega,hc,by rw[h2,hz],?_⟩⟩,h4⟩
  ·rw[h.cellAt _ (by omega),List.getElem?_eq_getElem (by omega)];rfl
  ·have hcl:i*5<=cur.toList.length:=by rw[Array.length_toList,hz];have:n*5<=cap*5:=Nat.mul_le_mul_right _ hn;omega
   rw[h3,List.append_assoc,List.take_append_of_le_length (by rw[List.length_take];omega),List.take_take,Nat.min_self,<- recsC_take,<- hx,List.take_take,Nat.min_eq_left (by omega)]
theorem KC (g:FuncId)(lb:Array Value)(heg:∀args w,(callFunc g args).run Tryz.prog w= .ok (.enter g args) w)(p:Rec->Bool)(base:Nat)(w0 w:World)(l:List Rec)(hl:l.length<=1000000000000)(v:Value)
 (hrv:ql w v l) (hB0:Below base w0 w) (hbase:base<=w.heap.size)
 (hcall:∀r,r∈l->∀X,Below base w0 X->Calls Tryz.prog g (#[yf r] ++ lb) X λe X'=>e= .returned (.bool (p r))/\Below X.heap.size X X'):
 Calls Tryz.prog 137 #[v,.func (.func g) #[] lb] w λe w'=>e= .returned (.int .i64 (df.idx p l))/\Below w.heap.size w w':=by
 obtain⟨a,cap,rfl,-⟩:=id hrv;have Vg:=qe hcall;clear hcall;have HRV:=qe hrv;have HB0:=qe hB0;clear hrv hB0
 go_enter Tryz.func137,Tryz.ntmps137
 go_wp2_with fail
 go_loopw [8,5] (λkv _ wr=>∃k:Nat,k<=l.length/\kv= .int .i64 (k:Int)/\(∀j (hj:j<l.length),j<k->p l[j]=false)/\Below w.heap.size w wr) (λkv _ _=>l.length-(intOf kv).toNat)
 case atStart=>exact⟨0,gU _,rfl,(λj hj h=>absurd h (Nat.not_lt_zero _)),gJ _ _⟩
 case round=>
  obtain⟨k,hk,rfl,hno,hB⟩:=hrel;have hsr:=hB.size;by_cases hlt:k<l.length
  ·obtain⟨_,_,hv,_,hr⟩:=HRV.out.below hB;simp only[gL]at hv;obtain⟨rfl,-,rfl⟩:=hv;obtain⟨bb,off,rfl,hbl,c0,c1,c2,c3,c4⟩:=hr k hlt;clear hr;have hki:(k:Int)<(l.length:Int):=by omega
   obtain⟨r,hr0⟩:=yM (l[k]);rw[<- hr0]at c0 c1 c2 c3 c4;have hcl:=Vg.out r (by rw[hr0];exact Ht _) wr (HB0.out.trans (hB.mono hbase));have HNO:=qe hno;have HB:=qe hB;have HR0:=qe hr0;have HCL:=qe hcl;clear hno hB hr0 hcl;go_wp2_with fail;refine(HCL.out).mono ?_;rintro e w2 ⟨rfl,hB2⟩;have HB2:=qe (HB.out.trans (hB2.mono hsr));clear hB2 c0 c1 c2 c3 c4
   cases hp:p r
   ·have yU:∀j (hj:j<l.length),j<k+1->p l[j]=false:=λj hj h=>by
     rcases Nat.lt_or_ge j k with h2 | h2
     ·exact HNO.out j hj h2
     ·obtain rfl:j=k:=by omega
      rw[<- HR0.out];exact hp
    have uu:=qe yU;have HP:=qe hp;clear yU hp;go_wp2_with fail
    go_roundw
    case rel=>exact⟨k+1,by omega,by go_num,uu.out,HB2.out⟩
    case measure=>simp[intOf];omega
   ·have hres:=df.UT hlt HNO.out (by rw[<- HR0.out];exact hp);have HP:=qe hp;have zK:=qe hres;clear hp hres;go_wp2_with fail;go_ret;exact⟨congrArg (λz=>Ending.returned (.int .i64 z)) zK.out.symm,HB2.out⟩
  ·obtain rfl:l.length=k:=by omega
   have hres:=df.Qp (p:=p) (l:=l) (λj hj=>hno j hj hj);have zK:=qe hres;have HB:=qe hB;have HNO:=qe hno;clear hres hB hno;clear hlt;go_wp2_with fail;go_ret;exact⟨congrArg (λz=>Ending.returned (.int .i64 z)) zK.out.symm,HB.out⟩
theorem own_put {w:World}{base g n cap k:Nat}{M:List Rec}(h0:w.ownsRow base 80 5 (.slice (some ⟨g,0,none⟩) n cap) n (qw M))(hk:k<M.length)(r:Rec):
 (((((w.setCell ⟨g,k*5,none⟩ (.string r.owner)).setCell ⟨g,k*5+1,none⟩ (.int .i64 r.typ)).setCell ⟨g,k*5+2,none⟩ (.int .i64 r.cls)).setCell ⟨g,k*5+3,none⟩ (.int .i64 r.ttl)).setCell ⟨g,k*5+4,none⟩ (.string r.data)).ownsRow base 80 5 (.slice (some ⟨g,0,none⟩) n cap) n (qw (M.set k r))/\
 w.grownBy (((((w.setCell ⟨g,k*5,none⟩ (.string r.owner)).setCell ⟨g,k*5+1,none⟩ (.int .i64 r.typ)).setCell ⟨g,k*5+2,none⟩ (.int .i64 r.cls)).setCell ⟨g,k*5+3,none⟩ (.int .i64 r.ttl)).setCell ⟨g,k*5+4,none⟩ (.string r.data)) (some g):=by
 obtain⟨h1,g1⟩:=h0.stored (k*5) (.string r.owner);obtain⟨h2,g2⟩:=h1.stored (k*5+1) (.int .i64 r.typ);obtain⟨h3,g3⟩:=h2.stored (k*5+2) (.int .i64 r.cls);obtain⟨h4,g4⟩:=h3.stored (k*5+3) (.int .i64 r.ttl);obtain⟨h5,g5⟩:=h4.stored (k*5+4) (.string r.data);rw[recsC_set r M k hk]at h5;exact⟨h5,(((g1.trans g2).trans g3).trans g4).trans g5⟩
theorem Jq {w:World}{base g n cap i:Nat}{xs:List Value}(h:w.ownsRow base 80 5 (.slice (some ⟨g,0,none⟩) n cap) n xs)(hi:i<n*5):∃u,w.cell? ⟨g,i,none⟩=some u/\w.frozen? ⟨g,i,none⟩=false:=by
 have h1:=h.cellAt i hi;rw[List.getElem?_eq_getElem (by rw[h.1];exact hi)]at h1;exact⟨_,h1,h.frozenAt i⟩
theorem own_rec {w:World}{base g n cap j:Nat}{M:List Rec}(h:w.ownsRow base 80 5 (.slice (some ⟨g,0,none⟩) n cap) n (qw M))(hj:j<M.length):g<w.heap.size/\Zk w g (j*5) M[j]:=by
 have hn:n=M.length:=by have:=h.1;rw[zM]at this;omega
 subst hn;have:=qH (qF h) hj
 rwa [Nat.zero_add]at this
def DelPost (p:Rec->Bool)(l:List Rec)(base:Nat)(v:Value)(w:World)(e:Ending)(w':World):Prop:=
 ∃v',e= .returned v'/\w'.ownsRow base 80 5 v' (df.keep p l).length (qw (df.keep p l))/\v'.ownBlock=v.ownBlock/\w.grownBy w' v.ownBlock
theorem JI (g:FuncId)(lb:Array Value)(heg:∀args w,(callFunc g args).run Tryz.prog w= .ok (.enter g args) w)(p:Rec->Bool)(base:Nat)(w0 w:World)(l:List Rec)(hl:l.length<=1000000000000)(v:Value)
 (hown:w.ownsRow base 80 5 v l.length (qw l)) (hB0:Below base w0 w) (hbase:base<=w.heap.size)
 (hcall:∀r,r∈l->∀X,Below base w0 X->Calls Tryz.prog g (#[yf r] ++ lb) X λe X'=>e= .returned (.bool (p r))/\Below X.heap.size X X'):
 Calls Tryz.prog 152 #[v,.func (.func g) #[] lb] w λe w'=>DelPost p l base v w e w':=by
 have hix:=KC g lb heg p base w0 w l hl v (qF hown) hB0 hbase hcall;obtain⟨a,cap,rfl,hcap⟩:=qj hown;have Vg:=qe hcall;clear hcall
 cases hf:l.findIdx? p with
 | none=>
   have hn1:df.idx p l= -1:=by unfold df.idx;rw[hf]
   rw[hn1]at hix
   have hall:∀j (hj:j<l.length),p l[j]=false:=λj hj=>by
    have:=List.findIdx?_eq_none_iff.1 hf l[j] (Ht hj)
    simpa using this
   have hpost:∀W,Below w.heap.size w W->DelPost p l base (.slice a l.length cap) w (.returned (.slice a l.length cap)) W:=λW hW=>by
    refine⟨_,rfl,?_,rfl,⟨hW.os,hW.tape,hW.output,hW.size,λk hk _=>hW.block k hk⟩⟩;rw[df.keep_all hall];exact ownsRow_below hown hW
   have HIX:=qe hix;have HN1:=qe hn1;have HF:=qe hf;have yX:=qe hpost;have HOWN:=qe hown;have HB0:=qe hB0;have zk:=qe hall;clear hix hn1 hf hpost hown hB0 hall
   go_enter Tryz.func152,Tryz.ntmps152
   go_wp2_with fail;refine(HIX.out).mono ?_;rintro e w1 ⟨rfl,hB1⟩;have HB1:=qe hB1;clear hB1;go_wp2_with fail;go_ret;exact yX.out _ HB1.out
 | some k=>
   have hn1:df.idx p l=(k:Int):=by unfold df.idx;rw[hf]
   rw[hn1]at hix;obtain⟨hkl,hpk,hno⟩:=List.findIdx?_eq_some_iff_getElem.1 hf;obtain⟨hu0,hk0⟩:=df.under_first (p:=p) hkl (λj hj h=>by simpa using hno j h) hpk;obtain⟨gb,cap',hv,_,hgb⟩:=hown.form (by omega);simp only[gL,true_and]at hv;obtain⟨rfl,rfl⟩:=hv;have hkm:(k:Int)+1<=1000000000000:=by omega
   have hkn1:((k:Int) == -1)=false:=by rw[gG];omega
   have hgb2:base<=gb/\gb<w.heap.size:=hown.lt gb rfl;have hcapm:l.length<=cap:=hcap;have HIX:=qe hix;have HN1:=qe hn1;have HF:=qe hf;have HOWN:=qe hown;have HB0:=qe hB0;have HPK:=qe hpk;have HNO:=qe hno;have HU0:=qe hu0;have HK0:=qe hk0;have HGB2:=qe hgb2;clear hix hn1 hf hown hB0 hpk hno hu0 hk0 hgb2
   go_enter Tryz.func152,Tryz.ntmps152
   go_wp2_with fail;refine(HIX.out).mono ?_;rintro e w1 ⟨rfl,hB1⟩;have ho1:=ownsRow_below HOWN.out hB1;have hg1:w.grownBy w1 (some gb):=⟨hB1.os,hB1.tape,hB1.output,hB1.size,λk hk _=>hB1.block k hk⟩;have HB1:=qe hB1;have HO1:=qe ho1;have HG1:=qe hg1;clear hB1 ho1 hg1;go_wp2_with fail
   go_loopw [6,5,7] (λjv iv _ wr=>∃(j:Nat) (M:List Rec),j<=l.length/\jv= .int .i64 (j:Int)/\iv= .int .i64 ((df.keep p (l.take j)).length:Int)/\df.Under p l j M/\wr.ownsRow base 80 5 (.slice (some ⟨gb,0,none⟩) l.length cap) l.length (qw M)/\w.grownBy wr (some gb)) (λjv _ _ _=>l.length-(intOf jv).toNat)
   case atStart=>exact⟨k+1,l,hkl,by go_num,by rw[HK0.out],HU0.out,HO1.out,HG1.out⟩
   case round=>
    obtain⟨j,M,hj,rfl,rfl,hu,ho,hg⟩:=hrel;obtain⟨i,hi⟩:=yM ((df.keep p (l.take j)).length);rw[<- hi];have hij:i<j:=by rw[hi];exact hu.2.2.2
    have hML:M.length=l.length:=hu.1;by_cases hlt:j<l.length
    ·have hjl:(j:Int)<(l.length:Int):=by omega
     have hi0:(0:Int)<=(i:Int):=by omega
     have hil:(i:Int)<(l.length:Int):=by omega
     obtain⟨hbl,c0,c1,c2,c3,c4⟩:=own_rec ho (j:=j) (by omega);obtain⟨r,hr0⟩:=yM (M[j]'(by omega));have hrl:r=l[j]:=by rw[hr0];exact df.under_at hu hlt (by omega)
     rw[<- hr0]at c0 c1 c2 c3 c4;obtain⟨w2,hw2⟩:=yM (wr.alloc (.cells (recC r).toArray 80));obtain⟨hB2,hs2,hx⟩:=zf wr w2 r hw2;have hBr:Below base w0 wr:=HB0.out.grown hg (by have:=hbase;omega) (λq hq=>by simp only[gM]at hq;have:=HGB2.out.1;omega);have hsz:=hg.size;have hcl:=Vg.out r (by rw[hrl];exact Ht _) w2 (hBr.trans (hB2.mono (by omega)));obtain⟨x0,x1,x2,x3,x4⟩:=id hx;have HHS2:=qe hs2;have hlt2:wr.heap.size<w2.heap.size:=by omega
     clear hr0 hs2 hBr;have HI:=qe hi;have HML:=qe hML;have HU:=qe hu;have HO:=qe ho;have HG:=qe hg;have HW2:=qe hw2;have HB2:=qe hB2;have HX:=qe hx;have HCL:=qe hcl;have HRL:=qe hrl;clear hi hML hu ho hg hw2 hB2 hx hcl hrl;go_wp2_with fail;rw[<- HW2.out];refine(HCL.out).mono ?_;rintro e w3 ⟨rfl,hB3⟩;have hB23:Below wr.heap.size wr w3:=gm HB2.out hB3;have ho3:=ownsRow_below HO.out hB23;have hg3:w.grownBy w3 (some gb):=HG.out.trans ⟨hB23.os,hB23.tape,hB23.output,hB23.size,λk hk _=>hB23.block k hk⟩;have hx3:Zk w3 wr.heap.size 0 r:=HX.out.keep (hB3.block _ hlt2);clear c0 c1 c2 c3 c4 x0 x1 x2 x3 x4
     cases hp:p r
     ·obtain⟨hu2,hln⟩:=df.under_keep HU.out hlt (by rw[<- HRL.out];exact hp);rw[<- HRL.out,<- HI.out]at hu2;rw[<- HI.out]at hln;obtain⟨x0,x1,x2,x3,x4⟩:=id hx3;obtain⟨u0,d0,f0⟩:=Jq ho3 (i:=i*5) (by omega);obtain⟨u1,d1,f1⟩:=Jq ho3 (i:=i*5+1) (by omega);obtain⟨u2,d2,f2⟩:=Jq ho3 (i:=i*5+2) (by omega);obtain⟨u3,d3,f3⟩:=Jq ho3 (i:=i*5+3) (by omega);obtain⟨u4,d4,f4⟩:=Jq ho3 (i:=i*5+4) (by omega);obtain⟨hop,hgp⟩:=own_put ho3 (k:=i) (by rw[HML.out];omega) r;have hg4:=hg3.trans hgp;have HP:=qe hp;have HU2:=qe hu2;have HLN:=qe hln;have HOP:=qe hop;have HG4:=qe hg4;have HGP:=qe hgp;have HB3:=qe hB3;have Ul:=qe hB23;have HO3:=qe ho3;have HG3:=qe hg3;have HX3:=qe hx3;clear hp hu2 hln hop hg4 hgp hB3 hB23 ho3 hg3 hx3;go_wp2_with fail
      go_roundw
      case rel=>exact⟨j+1,M.set i r,by omega,by go_num,by rw[HLN.out];go_num,HU2.out,HOP.out,HG4.out⟩
      case measure=>simp[intOf];omega
     ·have hu2:=df.under_drop HU.out hlt (by rw[<- HRL.out];exact hp);have hln:(df.keep p (l.take (j+1))).length=i:=by rw[df.J9 hlt,if_pos (by rw[<- HRL.out];exact hp),List.append_nil];exact HI.out.symm
      have HP:=qe hp;have HU2:=qe hu2;have HLN:=qe hln;have HB3:=qe hB3;have Ul:=qe hB23;have HO3:=qe ho3;have HG3:=qe hg3;have HX3:=qe hx3;clear hp hu2 hln hB3 hB23 ho3 hg3 hx3;go_wp2_with fail
      go_roundw
      case rel=>exact⟨j+1,M,by omega,by go_num,by rw[HLN.out],HU2.out,HO3.out,HG3.out⟩
      case measure=>simp[intOf];omega
    ·obtain rfl:l.length=j:=by omega
     obtain⟨hcl,hos,hgs⟩:=VC ho (i:=i) hij;have hil:(i:Int)<=(l.length:Int):=by omega
     have hi0:(0:Int)<=(i:Int):=by omega
     have hic:(i:Int)<=(cap:Int):=by omega
     have hpost:DelPost p l base (.slice (some ⟨gb,0,none⟩) l.length cap) w (.returned (.slice (some ⟨gb,0,none⟩) i cap)) (wr.setCells gb (i*5) (qw (List.replicate (l.length-i) vI))):=by
      have hkl:df.keep p (l.take l.length)=df.keep p l:=by rw[List.take_length]
      have h2:=hu.2.1;rw[hkl]at h2 hi;rw[<- hi]at h2;rw[h2]at hos;exact⟨_,rfl,by rw[<- hi];exact hos,rfl,hg.trans hgs⟩
     clear hlt hj;have yX:=qe hpost;have HU:=qe hu;have HO:=qe ho;have HG:=qe hg;have HOS:=qe hos;have HGS:=qe hgs;have HML:=qe hML;have HI:=qe hi;clear hpost hu ho hg hos hgs hML hi;go_wp2_with fail;go_ret;exact yX.out
end Go.Proofs.YtpcmilhjpmlbpaaGreatDoor
