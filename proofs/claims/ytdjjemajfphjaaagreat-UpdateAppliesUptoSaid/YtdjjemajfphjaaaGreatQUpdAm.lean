import Derived.Test.YtdjjemajfphjaaaGreatQRzE
import Derived.Test.YtdjjemajfphjaaaGreatQRefU
import Derived.Test.YtdjjemajfphjaaaGreatQUpdAl
import Derived.Lib.SliceRun
set_option maxRecDepth 100000
set_option maxHeartbeats 8000000
namespace Go.Proofs.YtdjjemajfphjaaaGreat
open Go.RowKit Go.Shelf nm od
namespace mk
@[reducible] def markR (j k:Nat):Rec:=⟨⟨#[109,97,114,107]⟩,-1000*(j:Int)-(k:Int)-1,0,0,⟨#[]⟩⟩
def marks (j n:Nat):List Rec:=(List.range n).map (markR j)
def upd {α:Type}(f:Nat→α)(j:Nat)(x:α):Nat→α:=fun i=>if i=j then x else f i
theorem UC {α:Type}(f:Nat→α)(j:Nat)(x:α):upd f j x j=x:=by simp[upd]
theorem upd_ne {α:Type}(f:Nat→α){i j:Nat}(h:i≠j)(x:α):upd f j x i=f i:=by simp[upd,h]
end mk
theorem recsC_set (r:Rec):∀(l:List Rec) (k:Nat),k<l.length→
 ((((((qG l).set (k*5) (.string r.owner)).set (k*5+1) (.int .i64 r.typ)).set (k*5+2) (.int .i64 r.cls)).set (k*5+3) (.int .i64 r.ttl)).set (k*5+4) (.string r.data))=qG (l.set k r)
 | [],k,h=>by simp at h
 | a :: t,0,_=>by
   show((((((recC a ++ qG t).set (0*5) _).set (0*5+1) _).set (0*5+2) _).set (0*5+3) _).set (0*5+4) _)=recC r ++ qG t
   simp
 | a :: t,k+1,h=>by
   have ih:=recsC_set r t k (by simpa using h)
   have e:qG (a :: t)= .string a.owner :: .int .i64 a.typ :: .int .i64 a.cls :: .int .i64 a.ttl :: .string a.data :: qG t:=rfl
   rw[List.set_cons_succ,e,show(k+1)*5=k*5+1+1+1+1+1 by omega,
    show k*5+1+1+1+1+1+1=k*5+1+1+1+1+1+1 from rfl,show k*5+1+1+1+1+1+2=k*5+2+1+1+1+1+1 from rfl,
    show k*5+1+1+1+1+1+3=k*5+3+1+1+1+1+1 from rfl,show k*5+1+1+1+1+1+4=k*5+4+1+1+1+1+1 from rfl]
   simp only[List.set_cons_succ]
   rw[ih]
   rfl
structure Tri (base:Nat)(w:World)(lb mb:Nat)(mo:Obj)(V:Nat→Value)(X:Nat→List Rec):Prop where
 mem:w.heap[mb]? =some mo
 mne:mb≠lb
 mbase:base≤mb
 offm:∀j,j<3→(V j).ownBlock≠some mb
 blk:w.heap[lb]? =some (.cells #[V 0,V 1,V 2] 22 (0,0))
 from_:base≤lb
 row:∀j,j<3→w.ownsRow base 51 5 (V j) (X j).length (qG (X j))
 apart:∀i j g,i<3→j<3→i≠j→(V i).ownBlock=some g→(V j).ownBlock≠some g
 off_:∀j,j<3→(V j).ownBlock≠some lb
theorem three {P:Nat→Prop}(h0:P 0)(h1:P 1)(h2:P 2):∀j,j<3→P j:=fun j hj=>by
 match j,hj with
 | 0,_=>exact h0
 | 1,_=>exact h1
 | 2,_=>exact h2
section
variable {base lb mb:Nat}{mo:Obj}{w w':World}{V:Nat→Value}{X X':Nat→List Rec}
theorem Tri.lt (h:Tri base w lb mb mo V X):lb<w.heap.size:=qw h.blk
theorem Tri.cell (h:Tri base w lb mb mo V X){j:Nat}(hj:j<3):w.cell? ⟨lb,j,none⟩=some (V j)∧w.frozen? ⟨lb,j,none⟩=false:=by
 refine⟨?_,qE h.blk j⟩
 rw[qg h.blk]
 exact three (P:=fun j=>(#[V 0,V 1,V 2]:Array Value)[j]? =some (V j)) rfl rfl rfl j hj
theorem Tri.congr (h:Tri base w lb mb mo V X)(e:∀i,i<3→X i=X' i):Tri base w lb mb mo V X':=
 ⟨h.mem,h.mne,h.mbase,h.offm,h.blk,h.from_,fun j hj=>by rw[← e j hj];exact h.row j hj,h.apart,h.off_⟩
theorem Tri.keep (h:Tri base w lb mb mo V X)(hk:∀b,base≤b→b<w.heap.size→w'.heap[b]? =w.heap[b]?):Tri base w' lb mb mo V X:=
 ⟨(hk mb h.mbase (qw h.mem)).trans h.mem,h.mne,h.mbase,h.offm,(hk lb h.from_ h.lt).trans h.blk,h.from_,fun j hj=>qi (h.row j hj) fun b hb=>hk b ((h.row j hj).lt b hb).1 ((h.row j hj).lt b hb).2,h.apart,h.off_⟩
theorem Tri.below (h:Tri base w lb mb mo V X)(hb:Below w.heap.size w w'):Tri base w' lb mb mo V X:=h.keep fun b _ hb'=>hb.block b hb'
theorem Tri.grow {w1 w10:World}{o:Obj}(h:Tri base w lb mb mo V X)(e1:w1=w.alloc o){j n:Nat}(hj:j<3)(hn:n=(X j).length)(r:Rec)(v':Value)
 (hown:w10.ownsRow base 51 5 v' (n+1) (qG (X j) ++ recC r)) (hg:w1.grownBy w10 (V j).ownBlock) (hnn:∀b,v'.ownBlock=some b→(V j).ownBlock=some b∨w1.heap.size≤b):
 Tri base (w10.setCell ⟨lb,j,none⟩ v') lb mb mo (mk.upd V j v') (mk.upd X j (X j ++ [r])):=by
 have hs1:w1.heap.size=w.heap.size+1:=by rw[e1];simp
 have hl:=h.lt
 have hkp:∀b,b<w.heap.size→(V j).ownBlock≠some b→w10.heap[b]? =w.heap[b]?:=fun b hb hne=>
  (hg.block b (by omega) (fun e=>hne e.symm)).trans (by rw[e1];exact Below.heap_alloc w o b hb)
 have hblk:=(hkp lb hl (h.off_ j hj)).trans h.blk
 have hset:=qB hblk j v'
 have hset2:∀b,b≠lb→(w10.setCell ⟨lb,j,none⟩ v').heap[b]? =w10.heap[b]?:=fun b hne=>Below.heap_setCell _ _ _ _ hne
 have hml:=qw h.mem
 have hvm:v'.ownBlock≠some mb:=fun e=>(hnn mb e).elim (h.offm j hj) (fun h2=>by omega)
 have hvl:v'.ownBlock≠some lb:=fun e=>(hnn lb e).elim (h.off_ j hj) (fun h2=>by omega)
 refine⟨(hset2 mb h.mne).trans ((hkp mb hml (h.offm j hj)).trans h.mem),h.mne,h.mbase,fun i hi=>?_,?_,h.from_,fun i hi=>?_,fun i k g hi hk hne hgi=>?_,fun i hi=>?_⟩
 ·by_cases e:i=j
  ·subst e;rw[mk.UC];exact hvm
  ·rw[mk.upd_ne _ e];exact h.offm i hi
 ·rw[hset]
  exact three (P:=fun j=>some (Obj.cells ((#[V 0,V 1,V 2]:Array Value).setIfInBounds j v') 22 (0,0))=some (Obj.cells #[mk.upd V j v' 0,mk.upd V j v' 1,mk.upd V j v' 2] 22 (0,0))) rfl rfl rfl j hj
 ·by_cases e:i=j
  ·subst e
   rw[mk.UC,mk.UC,List.length_append,J4,← hn]
   refine qi ?_ fun b hb=>hset2 b (fun e=>hvl (by rw[hb,e]))
   simpa[qG] using hown
  ·rw[mk.upd_ne _ e,mk.upd_ne _ e]
   refine qi (h.row i hi) fun b hb=>?_
   have hbl:=((h.row i hi).lt b hb).2
   exact(hset2 b (fun e2=>h.off_ i hi (by rw[hb,e2]))).trans (hkp b hbl (h.apart i j b hi hj e hb))
 ·by_cases e:i=j
  ·subst e
   rw[mk.UC]at hgi
   rw[mk.upd_ne _ (fun x=>hne x.symm)]
   intro e2
   rcases hnn g hgi with h2 | h2
   ·exact h.apart i k g hi hk hne h2 e2
   ·have:=((h.row k hk).lt g e2).2
    omega
  ·rw[mk.upd_ne _ e]at hgi
   by_cases e2:k=j
   ·subst e2
    rw[mk.UC]
    intro e3
    rcases hnn g e3 with h2 | h2
    ·exact h.apart i k g hi hk hne hgi h2
    ·have:=((h.row i hi).lt g hgi).2
     omega
   ·rw[mk.upd_ne _ e2]
    exact h.apart i k g hi hk hne hgi
 ·by_cases e:i=j
  ·subst e;rw[mk.UC];exact hvl
  ·rw[mk.upd_ne _ e];exact h.off_ i hi
end
end Go.Proofs.YtdjjemajfphjaaaGreat
namespace Go.Proofs.YtdjjemajfphjaaaGreat
open Go.RowKit Go.Shelf nm od
namespace df
def keep (p:Rec→Bool)(l:List Rec):List Rec:=l.filter fun x=>!p x
end df
end Go.Proofs.YtdjjemajfphjaaaGreat
namespace Go.Proofs.YtdjjemajfphjaaaGreat
open Go.RowKit Go.Shelf nm od
theorem own_put {w:World}{base g n cap k:Nat}{M:List Rec}(h0:w.ownsRow base 51 5 (.slice (some ⟨g,0,none⟩) n cap) n (qG M))(hk:k<M.length)(r:Rec):
 (((((w.setCell ⟨g,k*5,none⟩ (.string r.owner)).setCell ⟨g,k*5+1,none⟩ (.int .i64 r.typ)).setCell ⟨g,k*5+2,none⟩ (.int .i64 r.cls)).setCell ⟨g,k*5+3,none⟩ (.int .i64 r.ttl)).setCell ⟨g,k*5+4,none⟩ (.string r.data)).ownsRow base 51 5 (.slice (some ⟨g,0,none⟩) n cap) n (qG (M.set k r))∧
 w.grownBy (((((w.setCell ⟨g,k*5,none⟩ (.string r.owner)).setCell ⟨g,k*5+1,none⟩ (.int .i64 r.typ)).setCell ⟨g,k*5+2,none⟩ (.int .i64 r.cls)).setCell ⟨g,k*5+3,none⟩ (.int .i64 r.ttl)).setCell ⟨g,k*5+4,none⟩ (.string r.data)) (some g):=by
 obtain⟨h1,g1⟩:=h0.stored (k*5) (.string r.owner)
 obtain⟨h2,g2⟩:=h1.stored (k*5+1) (.int .i64 r.typ)
 obtain⟨h3,g3⟩:=h2.stored (k*5+2) (.int .i64 r.cls)
 obtain⟨h4,g4⟩:=h3.stored (k*5+3) (.int .i64 r.ttl)
 obtain⟨h5,g5⟩:=h4.stored (k*5+4) (.string r.data)
 rw[recsC_set r M k hk]at h5
 exact⟨h5,(((g1.trans g2).trans g3).trans g4).trans g5⟩
theorem YY {w:World}{base g n cap i:Nat}{xs:List Value}(h:w.ownsRow base 51 5 (.slice (some ⟨g,0,none⟩) n cap) n xs)(hi:i<n*5):∃u,w.cell? ⟨g,i,none⟩=some u∧w.frozen? ⟨g,i,none⟩=false:=by
 have h1:=h.cellAt i hi
 rw[List.getElem?_eq_getElem (by rw[h.1];exact hi)]at h1
 exact⟨_,h1,h.frozenAt i⟩
end Go.Proofs.YtdjjemajfphjaaaGreat
namespace Go.Proofs.YtdjjemajfphjaaaGreat
open Go.RowKit Go.Shelf nm od
namespace up
def YH (qf:ByteArray)(x y:Rec):Rec:=if y.typ=6∧qz x.owner qf=true∧Qh (Qg x.data) (Qg y.data)=true then x else y
end up
theorem newer_any (a b:Int)(w:World):Calls Tryz.prog 84 #[.int .u32 a,.int .u32 b] w fun e w'=>e= .returned (.bool (up.Qh a b))∧Below w.heap.size w w':=by
 obtain⟨c,hc⟩:∃c,c=IntKind.u32.wrap (a-b):=⟨_,rfl⟩
 have hcw:IntKind.u32.wrap (a-b)=c:=hc.symm
 have hR:up.Qh a b=decide (1≤c∧c≤2147483647):=by unfold up.Qh;rw[hc,IntKind.wrap_u32]
 have HR:=Lib.hid hR
 clear hc hR
 by_cases h1:1≤c
 ·have d1:decide (1≤c)=true:=decide_eq_true h1
  by_cases h2:c≤2147483647
  ·have d2:decide (c≤2147483647)=true:=decide_eq_true h2
   have HE:=Lib.hid (show up.Qh a b=true by rw[HR.out];exact decide_eq_true ⟨h1,h2⟩)
   go_enter Tryz.func84,Tryz.ntmps84
   go_wp2_with fail
   go_ret
   exact⟨qA HE.out.symm,Below.refl _ _⟩
  ·have d2:decide (c≤2147483647)=false:=decide_eq_false h2
   have HE:=Lib.hid (show up.Qh a b=false by rw[HR.out];exact decide_eq_false fun h=>h2 h.2)
   go_enter Tryz.func84,Tryz.ntmps84
   go_wp2_with fail
   go_ret
   exact⟨qA HE.out.symm,Below.refl _ _⟩
 ·have d1:decide (1≤c)=false:=decide_eq_false h1
  have HE:=Lib.hid (show up.Qh a b=false by rw[HR.out];exact decide_eq_false fun h=>h1 h.1)
  go_enter Tryz.func84,Tryz.ntmps84
  go_wp2_with fail
  go_ret
  exact⟨qA HE.out.symm,Below.refl _ _⟩
structure V3 (w wb wr:World)(base st bx:Nat)(va:Option Addr)(gc:Nat)(qf:ByteArray)(F:Rec→Rec)(N:List Rec)(j:Nat):Prop where
 stb:wr.heap[st]? =some (.cells #[.string qf,.slice va N.length gc] 80 (0,0))
 row:wr.ownsRow base 51 5 (.slice va N.length gc) N.length (qG ((N.take j).map F ++ N.drop j))
 YJ:wr.heap[bx]? =wb.heap[bx]?
 below:Below base w wr
 lbx:bx<wr.heap.size
 lb:base≤wr.heap.size
theorem V3.under {w wb wr wx:World}{base st bx:Nat}{va:Option Addr}{gc:Nat}{qf:ByteArray}{F:Rec→Rec}{N:List Rec}{j:Nat}(h:V3 w wb wr base st bx va gc qf F N j)(hB:Below wr.heap.size wr wx):V3 w wb wx base st bx va gc qf F N j:=
 ⟨(hB.block st (qw h.stb)).trans h.stb,ownsRow_below h.row hB,(hB.block bx h.lbx).trans h.YJ,h.below.trans (hB.mono h.lb),Nat.lt_of_lt_of_le h.lbx hB.size,Nat.le_trans h.lb hB.size⟩
abbrev set5 (w:World)(g k:Nat)(r:Rec):World:=((((w.setCell ⟨g,k*5,none⟩ (.string r.owner)).setCell ⟨g,k*5+1,none⟩ (.int .i64 r.typ)).setCell ⟨g,k*5+2,none⟩ (.int .i64 r.cls)).setCell ⟨g,k*5+3,none⟩ (.int .i64 r.ttl)).setCell ⟨g,k*5+4,none⟩ (.string r.data)
theorem V3.store {w wb wr:World}{base st bx g gc:Nat}{qf:ByteArray}{F:Rec→Rec}{r y:Rec}{N:List Rec}{j:Nat}(h:V3 w wb wr base st bx (some ⟨g,0,none⟩) gc qf F N j)(hj:j<N.length)(hy:y=N[j])(hf:F y=r)(hg:g≠bx):
 V3 w wb (set5 wr g j r).drew base st bx (some ⟨g,0,none⟩) gc qf F N (j+1):=by
 have hgst:g≠st:=fun e=>jb h.row h.stb (by rw[e];rfl)
 have hlen:j<((N.take j).map F ++ N.drop j).length:=by rw[up.xW];exact hj
 obtain⟨h1,hgr⟩:=own_put h.row hlen r
 rw[show((N.take j).map F ++ N.drop j).set j r=(N.take (j+1)).map F ++ N.drop (j+1) by rw[← hf,hy];exact up.XE hj]at h1
 obtain⟨X,hX⟩:∃X,X=set5 wr g j r:=⟨_,rfl⟩
 have h1:X.ownsRow base 51 5 (.slice (some ⟨g,0,none⟩) N.length gc) N.length (qG ((N.take (j+1)).map F ++ N.drop (j+1))):=by rw[hX];exact h1
 have hgr:wr.grownBy X (some g):=by rw[hX];exact hgr
 rw[← hX]
 clear hX
 have hgl:=(h.row.lt g rfl)
 have hS:V3 w wb X base st bx (some ⟨g,0,none⟩) gc qf F N (j+1):=by
  refine⟨?_,h1,?_,?_,?_,?_⟩
  ·exact(hgr.block st (qw h.stb) (fun e=>hgst (Option.some.inj e).symm)).trans h.stb
  ·exact(hgr.block bx h.lbx (fun e=>hg (Option.some.inj e).symm)).trans h.YJ
  ·exact h.below.grown hgr h.lb (fun q hq=>by cases hq;exact hgl.1)
  ·exact Nat.lt_of_lt_of_le h.lbx hgr.size
  ·exact Nat.le_trans h.lb hgr.size
 exact hS.under (Below.refl _ X).drew
theorem adds_any (x:Rec)(hx1:x.cls=1)(hx6:x.typ=6)(hx20:20≤x.data.size∧x.data.size≤65535)(base st:Nat)(qf:ByteArray)(l:List Rec)(hl:l.length≤1000000000)(hn20:∀y∈l,y.typ=6→20≤y.data.size∧y.data.size≤65535)(w:World)(hb:base≤w.heap.size)(hs:zR w base st qf l):
 Calls Tryz.prog 41 #[.pointer (some ⟨st,0,none⟩),zB x] w fun e w'=>xI w base st qf (l.map (up.YH qf x)) e w':=by
 have hmf:∀(fn:Fn) (first cap:Array Value) (w:World),(Instr.makeFunc fn first cap).run Tryz.prog w= .ok (.func fn first cap) w:=fun _ _ _ _=>rfl
 obtain⟨kX,uz,uy,jd,jc⟩:=info_parts jM
 have kZ:=Lib.hid uz;have kY:=Lib.hid uy;have yK:=Lib.hid jd;have yJ:=Lib.hid jc
 clear uz uy jd jc
 obtain⟨wa,hwa⟩:∃W,W=w.alloc (.cells (recC x).toArray 51):=⟨_,rfl⟩
 obtain⟨hBa,hsa,hxa⟩:=qM w wa x hwa
 obtain⟨bx,hbx⟩:∃b,b=w.heap.size:=⟨_,rfl⟩
 have hha:wa.heap[bx]? =some (.cells (recC x).toArray 51 (0,0)):=by rw[hwa];exact qo hbx
 obtain⟨wb,hwb⟩:∃W,W=wa.setCell ⟨bx,2,none⟩ (.int .i64 1):=⟨_,rfl⟩
 have hhb:wb.heap[bx]? =some (.cells (recC x).toArray 51 (0,0)):=by
  rw[hwb]
  refine(qB hha 2 (.int .i64 1)).trans ?_
  rw[show(recC x).toArray.setIfInBounds 2 (.int .i64 1)=(recC x).toArray by
   show(#[.string x.owner,.int .i64 x.typ,.int .i64 1,.int .i64 x.ttl,.string x.data]:Array Value)= #[.string x.owner,.int .i64 x.typ,.int .i64 x.cls,.int .i64 x.ttl,.string x.data]
   rw[hx1]]
 have hBb:Below w.heap.size w wb:=by rw[hwb];exact hBa.setCell (p:=⟨bx,2,none⟩) (by rw[hbx];exact Nat.le_refl _) _
 have hsb:wb.heap.size=w.heap.size+1:=by rw[hwb];simpa[World.setCell] using hsa
 have xa2:wa.cell? ⟨bx,2,none⟩=some (.int .i64 x.cls):=by rw[qg hha];rfl
 have xf2:wa.frozen? ⟨bx,2,none⟩=false:=qE hha 2
 have hrec:∀X:World,X.heap[bx]? =wb.heap[bx]?→QT X bx 0 x:=fun X hX=>by
  have h:=hX.trans hhb
  refine⟨?_,?_,?_,?_,?_⟩ <;> (rw[qg h];rfl)
 obtain⟨x0,x1,x2,x3,x4⟩:=hrec wb rfl
 have zU:bx<wb.heap.size:=by omega
 have HWA:=Lib.hid hwa;have HWB:=Lib.hid hwb;have HBX:=Lib.hid hbx;have HBB:=Lib.hid hBb;have Qv:=Lib.hid hrec;have yH:=Lib.hid zU;have HBL:=Lib.hid hb
 have HST:=Lib.hid (hs.below hBb)
 have HS0:=Lib.hid hs
 have d6:(x.typ == 6)=true:=by rw[beq_iff_eq];exact hx6
 have HX20:=Lib.hid hx20;have HN20:=Lib.hid hn20
 obtain⟨n,hn⟩:∃n,n=qm x.owner:=⟨_,rfl⟩
 have HN:=Lib.hid hn
 clear hwa hwb hBa hsa hxa hbx hha hhb hBb hsb hrec zU hb hs hn hx20 hn20 hx6 hx1
 go_enter Tryz.func41,Tryz.ntmps41
 go_upto_region 1 with fail
 rw[← HWA.out,← HBX.out]
 go_upto_region 2 with fail
 rw[← HWB.out]
 clear xa2 xf2
 go_wp2_with fail
 refine(Xe x.owner wb).mono ?_
 rintro e w1 ⟨rfl,hB1,hcn,hln⟩
 rw[← HN.out]at hcn
 obtain⟨bn,hbn⟩:∃b,b=wb.heap.size:=⟨_,rfl⟩
 rw[← hbn]at hcn hln ⊢
 obtain⟨w2,hw2⟩:∃X,X=w1.alloc (.cells #[.func (.func 142) #[] #[.pointer (some ⟨bn,0,none⟩)]] 114):=⟨_,rfl⟩
 have hB2:Below w1.heap.size w1 w2:=by rw[hw2];exact(Below.refl _ w1).alloc (Nat.le_refl _) _
 have hs2:w2.heap.size=w1.heap.size+1:=by rw[hw2,World.size_alloc]
 obtain⟨b4,hb4⟩:∃b,b=w1.heap.size:=⟨_,rfl⟩
 have hc4:w2.cell? ⟨b4,0,none⟩=some (.func (.func 142) #[] #[.pointer (some ⟨bn,0,none⟩)]):=by rw[hw2,qg (qo hb4)];rfl
 have K8:Below wb.heap.size wb w2:=hB1.trans (hB2.mono hB1.size)
 have Y9:uE w2 b4 bn n:=⟨hc4,(hB2.cell (p:=⟨bn,0,none⟩) hln).trans hcn,by omega,by omega⟩
 obtain⟨y0,y1,y2,y3,y4⟩:=Qv.out w2 (K8.block bx yH.out)
 have HW2:=Lib.hid hw2;have HB4:=Lib.hid hb4;have V7:=Lib.hid K8;have HERE:=Lib.hid Y9
 have HST2:=Lib.hid (HST.out.below K8)
 have HNE:=Lib.hid (show bn≠st∧b4≠st∧bx≠st from by
  have h1:=HST.out.lt
  have h2:=HS0.out.lt
  have h3:=hB1.size
  have h4:=HBX.out
  have h5:=HBB.out.size
  omega)
 have HBN:=Lib.hid hbn
 have HB2S:=Lib.hid HBB.out
 have HBS0:=Lib.hid HS0.out.kI
 clear hB1 hcn hln hw2 hB2 hs2 hb4 hc4 K8 Y9 hbn x0 x1 x2 x3 x4
 go_upto_region 3 with fail
 rw[← HW2.out,← HB4.out]
 obtain⟨va,vc,hsb,hrow⟩:=HST2.out.parts
 have c1:w2.cell? ⟨st,1,none⟩=some (.slice va l.length vc):=by rw[qg hsb];rfl
 have HGX:=Lib.hid (show ∀b,(Value.slice va l.length vc).ownBlock=some b→b≠bx from fun b hb e=>by
  obtain⟨v0,h1,h2,h3⟩:=HS0.out
  have h4:=(HB2S.out.trans (V7.out.mono HB2S.out.size)).block st (qw h1)
  rw[hsb,h1]at h4
  simp only[Option.some.injEq,Obj.cells.injEq,Array.mk.injEq,List.cons.injEq,true_and,and_true]at h4
  rw[← h4]at h3
  have:=(h3.lt b hb).2
  have:=HBX.out
  omega)
 have HT0:=Lib.hid (show V3 w wb w2 base st bx va vc qf (up.YH qf x) l 0 from⟨hsb,by simpa using hrow,V7.out.block bx yH.out,HBB.out.mono HBL.out |>.trans (V7.out.mono (Nat.le_trans HBL.out HBB.out.size)),Nat.lt_of_lt_of_le yH.out V7.out.size,Nat.le_trans HBL.out (Nat.le_trans HBB.out.size V7.out.size)⟩)
 have HL:=Lib.hid hl
 clear hsb hrow
 go_wp2_with fail
 clear c1 y0 y1 y2 y3 y4
 go_loopw [23,5] (fun kv _ wr=>∃k:Nat,k≤l.length∧kv= .int .i64 (k:Int)∧Hid (V3 w wb wr base st bx va vc qf (up.YH qf x) l k)) (fun kv _ _=>l.length-(intOf kv).toNat)
 case atStart=>exact⟨0,Nat.zero_le _,rfl,HT0⟩
 case round=>
  obtain⟨k,hk,rfl,HJ⟩:=hrel
  obtain⟨w3,hw3⟩:∃X:World,X=wr:=⟨_,rfl⟩
  subst hw3
  by_cases hlt:k<l.length
  ·obtain⟨g,cg,hv,-,-⟩:=HJ.out.row.form (by omega)
   simp only[Value.slice.injEq,true_and]at hv
   obtain⟨rfl,rfl⟩:=hv
   have hki:(k:Int)<(l.length:Int):=by omega
   have hlen:=up.xW (F:=up.YH qf x) (N:=l) k
   have Y6:qy w3 (.slice (some ⟨g,0,none⟩) l.length vc) ((l.take k).map (up.YH qf x) ++ l.drop k):=qO (by rw[hlen];exact HJ.out.row)
   obtain⟨hgl,c0,c1,c2,c3,c4⟩:=zo Y6 (j:=k) (by rw[hlen];exact hlt)
   have hat:=up.KM (F:=up.YH qf x) hlt (by rw[hlen];exact hlt)
   obtain⟨y,hy⟩:∃y,y=l[k]:=⟨_,rfl⟩
   rw[← hy]at hat
   rw[hat]at c0 c1 c2 c3 c4
   simp only[Nat.zero_add]at c0 c1 c2 c3 c4
   obtain⟨wy,hwy⟩:∃W,W=w3.alloc (.cells (recC y).toArray 51):=⟨_,rfl⟩
   obtain⟨hBy,hsy,hyy⟩:=qM w3 wy y hwy
   obtain⟨by_,hby⟩:∃b,b=w3.heap.size:=⟨_,rfl⟩
   rw[← hby]at hyy
   have HTY:=Lib.hid (HJ.out.under hBy)
   have HY:=Lib.hid hy;have HWY:=Lib.hid hwy;have HBY:=Lib.hid hby;have HLT:=Lib.hid hlt
   have HY20:=Lib.hid (show y.typ=6→20≤y.data.size∧y.data.size≤65535 by rw[hy];exact HN20.out _ (List.getElem_mem hlt))
   obtain⟨y0,y1,y2,y3,y4⟩:=id hyy
   clear hlen Y6 hgl hat hwy hBy hsy hyy hby hy
   go_upto_region 7 with fail
   rw[← HWY.out,← HBY.out]
   clear c0 c1 c2 c3 c4 hki
   obtain⟨x0,x1,x2,x3,x4⟩:=Qv.out wy HTY.out.YJ
   have s0:wy.cell? ⟨st,0,none⟩=some (.string qf):=by rw[qg HTY.out.stb];rfl
   have k1:=qh y1;have k4:=qh y4;have j0:=qh x0;have j4:=qh x4;have ks:=qh s0
   clear y0 y1 y2 y3 y4 x0 x1 x2 x3 x4 s0
   by_cases q6:y.typ=6
   ·have e6:(y.typ == 6)=true:=by rw[beq_iff_eq];exact q6
    have Q6:=Lib.hid q6
    clear q6
    obtain⟨eb,heb⟩:∃eb,eb=qz x.owner qf:=⟨_,rfl⟩
    have CE:Hid (∀p,Calls Tryz.prog 28 #[.string x.owner,.string qf] (gw wy p) fun e w''=>e= .returned (.bool eb)∧∃p',w''=gw wy p'):=Lib.hid fun p=>by rw[heb];exact qL (vJ x.owner qf _)
    have HEB:=Lib.hid heb
    clear heb
    cases eb
    ·refine qj (by kernel_rfl) (by kernel_rfl) ?_
     repeat (with_reducible refine wpQuiet_step (fun K hK=>?_);go_simp;(try simp only[undef]);first | (with_reducible refine hK _ ?_;clear hK K) | (apply Exists.intro;refine⟨fun _=>?_,hK _ ?_⟩;(first | (go_at_call 28;with_reducible exact CE.out _));clear hK K) | (with_reducible refine⟨fun _ h=>(by cases h),?_⟩;with_reducible refine hK _ ?_;clear hK K))
     refine wpQuiet_nil ?_
     (try simp only[show Value.tuple #[]=undef from rfl])
     intro U hU
     have hBU:Below wy.heap.size wy U:=by obtain⟨g,rfl⟩:=hU;exact qp _ g
     clear hU
     have HTU:=Lib.hid (HTY.out.under hBU)
     clear hBU
     have HTE:=Lib.hid (show V3 w wb _ base st bx (some ⟨g,0,none⟩) vc qf (up.YH qf x) l (k+1) from⟨HTU.out.stb,by rw[← up.ZG HLT.out HY.out (show up.YH qf x y=y from if_neg (fun hh=>by have h2:=hh.2.1;rw[← HEB.out]at h2;cases h2))];exact HTU.out.row,HTU.out.YJ,HTU.out.below,HTU.out.lbx,HTU.out.lb⟩)
     clear e6 k1 k4 j0 j4 ks
     go_wp2_with fail
     go_roundw
     case rel=>
      first
       | exact⟨k+1,by omega,by go_num,HTE⟩
       | (repeat apply Exists.intro
          refine And.intro ?_ ?_
          rotate_left
          ·repeat (first | exact rfl | refine And.intro rfl ?_)
          exact⟨k+1,by omega,by go_num,HTE⟩)
     case measure=>simp[intOf];omega
    ·obtain⟨sx,hsx⟩:∃s,s=up.Qg x.data:=⟨_,rfl⟩
     obtain⟨sy,hsy⟩:∃s,s=up.Qg y.data:=⟨_,rfl⟩
     obtain⟨nb,hnb⟩:∃b,b=up.Qh sx sy:=⟨_,rfl⟩
     have CX:Hid (∀p,Calls Tryz.prog 85 #[.string x.data] (gw wy p) fun e w''=>e= .returned (.int .u32 sx)∧∃p',w''=gw wy p'):=Lib.hid fun p=>by rw[hsx];exact qL (YM x.data HX20.out.1 (Nat.le_trans HX20.out.2 (by decide)) _)
     have CY:Hid (∀p,Calls Tryz.prog 85 #[.string y.data] (gw wy p) fun e w''=>e= .returned (.int .u32 sy)∧∃p',w''=gw wy p'):=Lib.hid fun p=>by rw[hsy];exact qL (YM y.data (HY20.out Q6.out).1 (Nat.le_trans (HY20.out Q6.out).2 (by decide)) _)
     have CN:Hid (∀p,Calls Tryz.prog 84 #[.int .u32 sx,.int .u32 sy] (gw wy p) fun e w''=>e= .returned (.bool nb)∧∃p',w''=gw wy p'):=Lib.hid fun p=>by rw[hnb];exact qL (newer_any sx sy _)
     have HNB:=Lib.hid (show nb=up.Qh (up.Qg x.data) (up.Qg y.data) by rw[hnb,hsx,hsy])
     clear hsx hsy hnb
     refine qj (by kernel_rfl) (by kernel_rfl) ?_
     repeat (with_reducible refine wpQuiet_step (fun K hK=>?_);go_simp;(try simp only[undef]);first | (with_reducible refine hK _ ?_;clear hK K) | (apply Exists.intro;refine⟨fun _=>?_,hK _ ?_⟩;(first | (go_at_call 28;with_reducible exact CE.out _) | (go_at_call 85;with_reducible exact CX.out _) | (go_at_call 85;with_reducible exact CY.out _) | (go_at_call 84;with_reducible exact CN.out _));clear hK K) | (with_reducible refine⟨fun _ h=>(by cases h),?_⟩;with_reducible refine hK _ ?_;clear hK K))
     refine wpQuiet_nil ?_
     (try simp only[show Value.tuple #[]=undef from rfl])
     intro U hU
     have hBU:Below wy.heap.size wy U:=by obtain⟨g,rfl⟩:=hU;exact qp _ g
     clear hU
     have HTU:=Lib.hid (HTY.out.under hBU)
     clear hBU
     cases nb
     ·have HTE:=Lib.hid (show V3 w wb _ base st bx (some ⟨g,0,none⟩) vc qf (up.YH qf x) l (k+1) from⟨HTU.out.stb,by rw[← up.ZG HLT.out HY.out (show up.YH qf x y=y from if_neg (fun hh=>by have h2:=hh.2.2;rw[← HNB.out]at h2;cases h2))];exact HTU.out.row,HTU.out.YJ,HTU.out.below,HTU.out.lbx,HTU.out.lb⟩)
      clear e6 k1 k4 j0 j4 ks
      go_wp2_with fail
      go_roundw
      case rel=>
       first
        | exact⟨k+1,by omega,by go_num,HTE⟩
        | (repeat apply Exists.intro
           refine And.intro ?_ ?_
           rotate_left
           ·repeat (first | exact rfl | refine And.intro rfl ?_)
           exact⟨k+1,by omega,by go_num,HTE⟩)
      case measure=>simp[intOf];omega
     ·have HTE:=Lib.hid (HTU.out.store HLT.out HY.out (show up.YH qf x y=x from if_pos ⟨Q6.out,HEB.out.symm,HNB.out.symm⟩) (HGX.out g rfl))
      clear e6 k1 k4 j0 j4 ks
      obtain⟨x0,x1,x2,x3,x4⟩:=Qv.out U HTU.out.YJ
      have s1:U.cell? ⟨st,1,none⟩=some (.slice (some ⟨g,0,none⟩) l.length vc):=by rw[qg HTU.out.stb];rfl
      have hki:(k:Int)<(l.length:Int):=by have:=HLT.out;omega
      obtain⟨u0,r0,f0⟩:=YY HTU.out.row (i:=k*5) (by omega)
      obtain⟨u1,r1,f1⟩:=YY HTU.out.row (i:=k*5+1) (by omega)
      obtain⟨u2,r2,f2⟩:=YY HTU.out.row (i:=k*5+2) (by omega)
      obtain⟨u3,r3,f3⟩:=YY HTU.out.row (i:=k*5+3) (by omega)
      obtain⟨u4,r4,f4⟩:=YY HTU.out.row (i:=k*5+4) (by omega)
      go_upto_region 8 with fail
      go_region
      clear x0 x1 x2 x3 x4 s1 r0 r1 r2 r3 r4 f0 f1 f2 f3 f4 hki
      go_wp2_with fail
      go_roundw
      case rel=>exact⟨k+1,by have:=HLT.out;omega,by go_num,HTE⟩
      case measure=>have:=HLT.out;simp[intOf];omega
   ·have e6:(y.typ == 6)=false:=by rw[beq_eq_false_iff_ne];exact q6
    have Q6:=Lib.hid q6
    clear q6
    refine qj (by kernel_rfl) (by kernel_rfl) ?_
    repeat (with_reducible refine wpQuiet_step (fun K hK=>?_);go_simp;(try simp only[undef]);first | (with_reducible refine hK _ ?_;clear hK K))
    refine wpQuiet_nil ?_
    (try simp only[show Value.tuple #[]=undef from rfl])
    intro U hU
    have hBU:Below wy.heap.size wy U:=by obtain⟨g,rfl⟩:=hU;exact qp _ g
    clear hU
    have HTU:=Lib.hid (HTY.out.under hBU)
    clear hBU
    have HTE:=Lib.hid (show V3 w wb _ base st bx (some ⟨g,0,none⟩) vc qf (up.YH qf x) l (k+1) from⟨HTU.out.stb,by rw[← up.ZG HLT.out HY.out (show up.YH qf x y=y from if_neg (fun hh=>Q6.out hh.1))];exact HTU.out.row,HTU.out.YJ,HTU.out.below,HTU.out.lbx,HTU.out.lb⟩)
    clear e6 k1 k4 j0 j4 ks
    go_wp2_with fail
    go_roundw
    case rel=>
     first
      | exact⟨k+1,by omega,by go_num,HTE⟩
      | (repeat apply Exists.intro
         refine And.intro ?_ ?_
         rotate_left
         ·repeat (first | exact rfl | refine And.intro rfl ?_)
         exact⟨k+1,by omega,by go_num,HTE⟩)
    case measure=>simp[intOf];omega
  ·obtain rfl:k=l.length:=by omega
   clear hlt
   go_wp2_with fail
   go_end0
   have hrow:=HJ.out.row
   rw[List.take_length,List.drop_length,List.append_nil]at hrow
   exact⟨rfl,⟨.slice va l.length vc,HJ.out.stb,HBS0.out,by rw[List.length_map];exact hrow⟩,HJ.out.below⟩
theorem chgOk_soa {x:Rec}(h1:x.cls=1)(h6:x.typ=6)(h20:20≤x.data.size∧x.data.size≤65535):VJ x:=by
 intro base st qf l w hl hin hb hs
 have e:up.zO qf l x=l.map (up.YH qf x):=by unfold up.zO up.Z4;rw[if_pos h1,if_pos h6];rfl
 rw[if_pos h1,e]
 exact adds_any x h1 h6 h20 base st qf l (by omega) (fun y hy=>(hin y hy).2.2) w hb hs
theorem chgOk_all {x:Rec}(hx:ql x.owner=true)(hi:x.cls=1→up.jO x):VJ x:=by
 by_cases h1:x.cls=1
 ·by_cases h5:x.typ=5
  ·exact chgOk_cname h1 h5 hx
  ·by_cases h6:x.typ=6
   ·exact chgOk_soa h1 h6 ((hi h1).2.2 h6)
   ·exact VF h1 h5 h6 hx
 ·by_cases h2:x.cls=255
  ·exact chgOk_clear h2 hx
  ·exact chgOk_take h1 h2 hx
end Go.Proofs.YtdjjemajfphjaaaGreat
namespace Go.Proofs.YtdjjemajfphjaaaGreat
open Go.RowKit Go.Shelf nm od
theorem chg_msg {qf:ByteArray}{L:List Rec}{h:Hd}{qs:List Qn}{an au ad:List Rec}(h0:up.zN qf L h qs an au ad=0):∀x∈au,VJ x:=fun x hx=>by
 have hm:wi.jI h qs an au ad=true:=by
  cases hh:up.xn h qs an au ad
  ·rw[up.Uf hh]at h0;cases h0
  ·exact(up.xC hh).2.1
 have hr:wi.qR x=true:=List.all_eq_true.1 (by
  have h1:=hm
  unfold wi.jI at h1
  simp only[Bool.and_eq_true]at h1
  exact h1.1.2) x hx
 refine chgOk_all ?_ (up.msg_in hm (up.msg_ok hm).2 x hx)
 unfold wi.qR at hr
 simp only[Bool.and_eq_true]at hr
 exact hr.1.1.1.1
end Go.Proofs.YtdjjemajfphjaaaGreat
