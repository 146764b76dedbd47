import Derived.Test.YtpcmilhjpmlbpaaGreatDoorQCpX
import Derived.Test.YtpcmilhjpmlbpaaGreatDoorQCpE
import Derived.Test.YtpcmilhjpmlbpaaGreatDoorQCpU
set_option maxRecDepth 100000
set_option maxHeartbeats 8000000
namespace Go.Proofs.YtpcmilhjpmlbpaaGreatDoor
open Go.RowKit Go.Shelf nm od
attribute [local go_sem] Oper.semAt_some
def ApartP (P:List (Value×Value)):Prop:=P.Pairwise (fun p p'=>∀b,(p.1.ownBlock=some b∨p.2.ownBlock=some b)→p'.1.ownBlock≠some b∧p'.2.ownBlock≠some b)∧∀p∈P,∀b,p.1.ownBlock=some b→p.2.ownBlock≠some b
def kZ (base:Nat)(w:World)(v:Value)(h:Hd)(qs:List Qn)(L:List (List Rec)):Prop:=∃P:List (Value×Value),P.length=L.length∧w.ownsRow base 33 14 v P.length (uN h P)∧
 (∀k (h1:k<P.length) (h2:k<L.length),w.ownsRow base 78 3 P[k].1 qs.length (xI qs)∧w.ownsRow base 80 5 P[k].2 L[k].length (qp L[k]))∧ApartP P∧
 ∀b,v.ownBlock=some b→∀p∈P,p.1.ownBlock≠some b∧p.2.ownBlock≠some b
theorem kZ.keep {base:Nat}{w w':World}{v:Value}{h:Hd}{qs:List Qn}{L:List (List Rec)}(hA:kZ base w v h qs L)(hk:∀b,base≤b→b<w.heap.size→(∃t c x,w.heap[b]? =some (.cells t c x))→w'.heap[b]? =w.heap[b]?):kZ base w' v h qs L:=by
 obtain⟨P,h1,h2,h3,h4,h5⟩:=hA;have ho:∀{e:TypeId} {s:Nat} {u:Value} {n:Nat} {xs:List Value},w.ownsRow base e s u n xs→w'.ownsRow base e s u n xs:=fun h=>qj h fun b hb=>by
  rcases h.2 with⟨rfl,_⟩|⟨g,cap,cur,rfl,h1,h2,_⟩
  ·cases hb
  ·simp only[Value.ownBlock,Option.some.injEq]at hb;subst hb;exact hk _ h1 (qA h2) ⟨_,_,_,h2⟩
 exact⟨P,h1,ho h2,fun k a b=>⟨ho (h3 k a b).1,ho (h3 k a b).2⟩,h4,h5⟩
theorem kZ.below {base:Nat}{w w':World}{v:Value}{h:Hd}{qs:List Qn}{L:List (List Rec)}(hA:kZ base w v h qs L)(hB:Below w.heap.size w w'):kZ base w' v h qs L:=hA.keep fun b _ h2 _=>hB.block b h2
theorem kZ.ZC {base base':Nat}{w:World}{v:Value}{h:Hd}{qs:List Qn}{L:List (List Rec)}(hA:kZ base w v h qs L)(hb:base'≤base):kZ base' w v h qs L:=by
 obtain⟨P,h1,h2,h3,h4,h5⟩:=hA;exact⟨P,h1,qG h2 hb,fun k a b=>⟨qG (h3 k a b).1 hb,qG (h3 k a b).2 hb⟩,h4,h5⟩
theorem ansOwn_nil (base:Nat)(w:World)(h:Hd)(qs:List Qn):kZ base w (.slice none 0 0) h qs []:=
 ⟨[],rfl,World.ownsRow_nil _ _ _ _,fun k h1=>absurd h1 (Nat.not_lt_zero _),⟨List.Pairwise.nil,fun p hp=>absurd hp (by simp)⟩,fun b hb=>by cases hb⟩
theorem msgs_append (base:Nat)(w w0:World)(h:Hd)(qs:List Qn)(L:List (List Rec))(l:List Rec)(v:Value)(hA:kZ base w0 v h qs L)(hL:L.length≤1000)(w1:World)(hB:Below w0.heap.size w0 w1)(q r:Value)(hq:w1.ownsRow w0.heap.size 78 3 q qs.length (xI qs))(hr:w1.ownsRow w0.heap.size 80 5 r l.length (qp l))
 (hap:∀b,q.ownBlock=some b→r.ownBlock≠some b) (hb:base≤w0.heap.size) (hw:w=w1.alloc (.cells (yG h q r (.slice none 0 0) (.slice none 0 0)).toArray 33)):
 ∃v' w',(Builtin.append_ #[23,23] 23 #[v,.slice (some ⟨w1.heap.size,0,none⟩) 1 1]).run Tryz.prog w= .ok v' w'∧kZ base w' v' h qs (L ++ [l])∧w.grownBy w' v.ownBlock∧
  (∀b,v.ownBlock=some b→base≤b∧b<w0.heap.size∧∃t c x,w0.heap[b]? =some (.cells t c x)):=by
 obtain⟨P,h1,h2,h3,h4,h5⟩:=hA;obtain⟨i0,hi0,hz0,hz1,hz2⟩:=Qi info_msg7;have hBw:Below w1.heap.size w1 w:=by rw[hw];exact(Below.refl _ _).alloc (Nat.le_refl _) _
 have hB2:Below w0.heap.size w0 w:=hB.trans (hBw.mono hB.size);have hsz:w.heap.size=w1.heap.size+1:=by rw[hw];simp
 have ho:=ownsRow_below h2 hB2;have hnews:∀j u,(yG h q r (.slice none 0 0) (.slice none 0 0))[j]? =some u→w.cell? ((⟨w1.heap.size,0,none⟩:Addr).add j)=some u:=by rw[hw];exact j3 w1 _ _
 have hlim:P.length≤1000:=by omega
 obtain⟨qa,qc,rfl,-⟩:=qi hq;obtain⟨ra,rc,rfl,-⟩:=qi hr;have hone:∀u∈yG h (.slice qa qs.length qc) (.slice ra l.length rc) (.slice none 0 0) (.slice none 0 0),u.oneCell'=true:=by simp[Value.oneCell']
 obtain⟨v',w',hrun,k1,k2,_⟩:=run_append_own (P:=Tryz.prog) w base 23 23 33 i0 (yZ hd0 (.slice none 0 0) (.slice none 0 0) (.slice none 0 0) (.slice none 0 0)) 14 136 Tryz.underlying23 hi0 hz0 hz1 hz2 rfl (by decide) v P.length (uN h P) ho ⟨w1.heap.size,0,none⟩ 1 1 (yG h (.slice qa qs.length qc) (.slice ra l.length rc) (.slice none 0 0) (.slice none 0 0)) rfl hnews hone (by unfold maxLen;omega) (by omega) (Nat.le_trans hb hB2.size);have k3:=QM w base 23 23 33 i0 (yZ hd0 (.slice none 0 0) (.slice none 0 0) (.slice none 0 0) (.slice none 0 0)) 14 136 Tryz.underlying23 hi0 hz0 hz1 hz2 v P.length (uN h P) ho ⟨w1.heap.size,0,none⟩ 1 1 (yG h (.slice qa qs.length qc) (.slice ra l.length rc) (.slice none 0 0) (.slice none 0 0)) rfl hnews hone (by unfold maxLen;omega) (by omega) hrun;refine⟨v',w',hrun,⟨P ++ [(.slice qa qs.length qc,.slice ra l.length rc)],by simp[h1],?_,fun k a b=>?_,⟨?_,?_⟩,?_⟩,k2,fun b hbv=>⟨(h2.lt b hbv).1,(h2.lt b hbv).2,?_⟩⟩
 ·rw[JS,List.length_append,List.length_singleton];exact k1
 ·have keep:∀{e:TypeId} {s:Nat} {u:Value} {n:Nat} {xs:List Value} {bs:Nat},w.ownsRow bs e s u n xs→(∀b,u.ownBlock=some b→v.ownBlock≠some b)→w'.ownsRow bs e s u n xs:=fun h hne=>qj h fun b hb=>k2.block b (h.lt b hb).2 (fun e=>hne b hb e.symm);by_cases hk:k<P.length
  ·have e1:(P ++ [(Value.slice qa qs.length qc,Value.slice ra l.length rc)])[k]=P[k]:=List.getElem_append_left hk;have e2:(L ++ [l])[k]=L[k]'(by omega):=List.getElem_append_left (by omega);rw[e1,e2];obtain⟨o1,o2⟩:=h3 k hk (by omega);have hm:=List.getElem_mem hk;exact⟨keep (ownsRow_below o1 hB2) fun b hb hv=>(h5 b hv _ hm).1 hb,keep (ownsRow_below o2 hB2) fun b hb hv=>(h5 b hv _ hm).2 hb⟩
  ·have ek:k=P.length:=by simp at a;omega
   subst ek;have e1:(P ++ [(Value.slice qa qs.length qc,Value.slice ra l.length rc)])[P.length]=(Value.slice qa qs.length qc,Value.slice ra l.length rc):=by simp
   have e2:(L ++ [l])[P.length]=l:=by simp[h1]
   rw[e1,e2];exact⟨qG (keep (ownsRow_below hq hBw) fun b hb hv=>by have h7:=(hq.lt b hb).1;have h8:=(h2.lt b hv).2;omega) hb,qG (keep (ownsRow_below hr hBw) fun b hb hv=>by have h7:=(hr.lt b hb).1;have h8:=(h2.lt b hv).2;omega) hb⟩
 ·refine List.pairwise_append.2 ⟨h4.1,List.pairwise_singleton _ _,fun p hp p' hp' b hb=>?_⟩;rw[List.mem_singleton.1 hp'];obtain⟨k,hk,rfl⟩:=List.getElem_of_mem hp;obtain⟨o1,o2⟩:=h3 k hk (by omega);have hlt:b<w0.heap.size:=hb.elim (fun h=>(o1.lt b h).2) (fun h=>(o2.lt b h).2);exact⟨fun h=>by have:=(hq.lt b h).1;omega,fun h=>by have:=(hr.lt b h).1;omega⟩
 ·intro p hp;rcases List.mem_append.1 hp with h | h
  ·exact h4.2 p h
  ·rw[List.mem_singleton.1 h];exact hap
 ·intro b hbv p hp;rcases List.mem_append.1 hp with h | h
  ·obtain⟨k,hk,rfl⟩:=List.getElem_of_mem h;obtain⟨o1,o2⟩:=h3 k hk (by omega);rcases k3 b hbv with h6 | h6
   ·exact h5 b h6 _ h
   ·have h9:=hB2.size;exact⟨fun h=>by have:=(o1.lt b h).2;omega,fun h=>by have:=(o2.lt b h).2;omega⟩
  ·rw[List.mem_singleton.1 h];rcases k3 b hbv with h6 | h6
   ·have h7:=(h2.lt b h6).2;exact⟨fun h=>by have:=(hq.lt b h).1;omega,fun h=>by have:=(hr.lt b h).1;omega⟩
   ·exact⟨fun h=>by have:=(hq.lt b h).2;omega,fun h=>by have:=(hr.lt b h).2;omega⟩
 ·rcases h2.2 with⟨rfl,_⟩|⟨g,cap,cur,rfl,h6,h7,_⟩
  ·cases hbv
  ·simp only[Value.ownBlock,Option.some.injEq]at hbv;subst hbv;exact⟨_,_,_,h7⟩
def ZG (L:List Msg)(qs:List Qn)(w:World)(e:Ending)(w':World):Prop:=∃h P v,L=tr.Q3 h qs P∧P.length≤200∧(∀p∈P,p.length≤16)∧e= .returned v∧Below w.heap.size w w'∧kZ w.heap.size w' v h qs P
theorem Xe {L:List Msg}{qs:List Qn}{w w':World}(hL:L= [])(hB:Below w.heap.size w w'):ZG L qs w (.returned (.slice none 0 0)) w':=by
 subst hL;exact⟨hd0,[],_,rfl,by simp,fun p hp=>absurd hp (by simp),rfl,hB,ansOwn_nil _ _ _ _⟩
theorem store_fn {w:World}{b f x y:Nat}{v0:Value}(hc:w.cell? ⟨b,0,none⟩=some v0)(hz:w.frozen? ⟨b,0,none⟩=false):(store ⟨b,0,none⟩ (.func (.func f) #[] #[.pointer (some ⟨x,0,none⟩),.pointer (some ⟨y,0,none⟩)])).run Tryz.prog w= .ok () (w.setCell ⟨b,0,none⟩ (.func (.func f) #[] #[.pointer (some ⟨x,0,none⟩),.pointer (some ⟨y,0,none⟩)])):=by
 rw[Go.run_store _ _ _ _ _ rfl,hc,hz];rfl
theorem ans_leaveD {n D:Nat}{L:List Msg}{qs:List Qn}{w:World}{a:Act}{X:World}{v:Value}(h4:a.tmps.getD 4 undef=v)(hd:a.defers= [{ target:=.collected D,args:=#[]}])(hwD:w.heap.size≤D)(hK:X.heap[D]? =some (.deferred (some [])))
 (hR:ZG L qs w (.returned v) X):bodyPostM Fence.wide n Tryz.prog Tryz.f11 (fun e w'=>ZG L qs w e w') .ret a X:=by
 subst h4;show LeavesInM Fence.wide n Tryz.prog _ a.tmps _ a.defers .returning X;rw[hd];have hg:=grownBy_putObj' X D (.deferred none);have hr:∀r,some D=some r→∃o:Obj,X.heap[r]? =some o∧o.isCells=false:=fun r e=>by cases e;exact⟨_,hK,rfl⟩
 refine⟨by simp,.inl ⟨_,_,rfl,run_takeDeferred hK,?_⟩⟩;obtain⟨h',P,v',hL,hP1,hP2,he,hB,hA⟩:=hR;refine⟨_,results_tmp rfl _ _ _,h',P,v',hL,hP1,hP2,he,hB.trans (belowK_b (w:=w) (Nat.le_refl _) X D _ _ hwD hK rfl rfl),hA.keep fun b _ _ h3=>?_⟩;obtain⟨t,c,x,h3⟩:=h3;exact grownBy_keeps_cells hg hr h3 rfl
def partAt (R:List Rec)(n:Nat)(x:{ k:Nat // k<n}):List Rec:=tr.jF R x.1
theorem Jw {n:Nat}{R:Ending→World→Prop}{a:Act}{X:World}{v:Value}(h4:a.tmps.getD 4 undef=v)(hd:a.defers= [])(hR:R (.returned v) X):bodyPostM Fence.wide n Tryz.prog Tryz.f11 R .ret a X:=by
 subst h4;exact bodyM_ret (results_tmp rfl _ _ _) hd hR
def AnsIn (w5 w9:World)(k8:Nat)(hd:Hd)(qs:List Qn)(R:List Rec)(N:Nat)(pre:List { k:Nat // k<N})(X:World):Prop:=
 ∃ov,X.cell? ⟨k8,0,none⟩=some ov∧X.frozen? ⟨k8,0,none⟩=false∧kZ w9.heap.size X ov hd qs (pre.map (partAt R N))∧Below w5.heap.size w5 X∧w9.heap.size≤X.heap.size
theorem ansIn_own {w5 w9:World}{k8:Nat}{hd:Hd}{qs:List Qn}{R:List Rec}{N:Nat}(hs:w5.heap.size≤w9.heap.size):OwnFrom w9.heap.size (AnsIn w5 w9 k8 hd qs R N):=by
 rintro pre A B row ⟨ov,c8,f8,hA,hB,hz⟩ hg hr;have hr2:∀r,row=some r→∃o:Obj,A.heap[r]? =some o∧o.isCells=false:=fun r e=>(hr r e).2;refine⟨ov,cell_kept c8 hg hr2,(frozen_kept c8 hg hr2).trans f8,hA.keep fun b _ _ h3=>?_,ownFrom_below (β:=Unit) (Nat.le_refl _) hs () A B row hB hg hr,Nat.le_trans hz hg.size⟩;obtain⟨t,c,x,h3⟩:=h3;exact grownBy_keeps_cells hg hr2 h3 rfl
theorem ans_more (w5 w9 X wO:World)(k7 k8 kB kN:Nat)(hd:Hd)(qs:List Qn)(R:List Rec)(N:Nat)(pre:List { k:Nat // k<N})(x:{ k:Nat // k<N})(ov fv:Value)(c8:X.cell? ⟨k8,0,none⟩=some ov)(f8:X.frozen? ⟨k8,0,none⟩=false)
 (hA:kZ w9.heap.size X ov hd qs (pre.map (partAt R N))) (hB:Below w5.heap.size w5 X) (hs:w9.heap.size≤X.heap.size) (x7:X.cell? ⟨k7,0,none⟩=some fv) (hl8:w5.heap.size≤k8∧k8<w9.heap.size∧k8≠kB∧k8≠kN) (hX:k8<X.heap.size∧kB<w9.heap.size∧kN<w9.heap.size) (h7:k7<X.heap.size)
 (hPL:(pre.map (partAt R N)).length≤1000) (hO:Below X.heap.size X wO) (qO rO:Value) (hq:wO.ownsRow X.heap.size 78 3 qO qs.length (xI qs)) (hr:wO.ownsRow X.heap.size 80 5 rO (partAt R N x).length (qp (partAt R N x)))
 (hap:∀b,qO.ownBlock=some b→rO.ownBlock≠some b):
 ∃W2 va vn vc wN,W2=wO.alloc (.cells (yG hd qO rO (.slice none 0 0) (.slice none 0 0)).toArray 33)∧(Builtin.append_ #[23,23] 23 #[ov,.slice (some ⟨wO.heap.size,0,none⟩) 1 1]).run Tryz.prog W2= .ok (.slice va vn vc) wN∧wO.cell? ⟨k7,0,none⟩=some fv∧
  wO.cell? ⟨k8,0,none⟩=some ov∧wO.frozen? ⟨k8,0,none⟩=false∧W2.cell? ⟨k8,0,none⟩=some ov∧wN.cell? ⟨k8,0,none⟩=some ov∧wN.frozen? ⟨k8,0,none⟩=false∧
   Hid (KeepsOthers X (wN.setCell ⟨k8,0,none⟩ (.slice va vn vc))∧(zf kB X (wN.setCell ⟨k8,0,none⟩ (.slice va vn vc))∧zf kN X (wN.setCell ⟨k8,0,none⟩ (.slice va vn vc)))∧AnsIn w5 w9 k8 hd qs R N (pre ++ [x]) (wN.setCell ⟨k8,0,none⟩ (.slice va vn vc))):=by
 obtain⟨W2,hW2⟩:∃W,W=wO.alloc (.cells (yG hd qO rO (.slice none 0 0) (.slice none 0 0)).toArray 33):=⟨_,rfl⟩;obtain⟨vN,wN,hrun,hAN,hg,hov⟩:=msgs_append w9.heap.size W2 X hd qs (pre.map (partAt R N)) (partAt R N x) ov hA hPL wO hO qO rO hq hr hap hs hW2;obtain⟨va,vn,vc,rfl⟩:∃va vn vc,vN= .slice va vn vc:=by
  obtain⟨_,_,h2,_⟩:=id hAN;obtain⟨a,c,e,_⟩:=qi h2;exact⟨a,_,c,e⟩
 have hOW:Below wO.heap.size wO W2:=by rw[hW2];exact(Below.refl _ _).alloc (Nat.le_refl _) _
 have hXW:=hO.trans (hOW.mono hO.size);have c8O:=(hO.cell (p:=⟨k8,0,none⟩) hX.1).trans c8;have f8O:wO.frozen? ⟨k8,0,none⟩=false:=(World.frozen?_of_block (w:=X) (a:=⟨k8,0,none⟩) (hO.block k8 hX.1)).trans f8;have c8W:=(hXW.cell (p:=⟨k8,0,none⟩) hX.1).trans c8;have f8W:W2.frozen? ⟨k8,0,none⟩=false:=(World.frozen?_of_block (w:=X) (a:=⟨k8,0,none⟩) (hXW.block k8 hX.1)).trans f8;have hne:∀b,b<w9.heap.size→some b≠ov.ownBlock:=fun b hb e=>by have:=(hov b e.symm).1;omega
 have hbN:∀b,b<X.heap.size→b<w9.heap.size→wN.heap[b]? =X.heap[b]?:=fun b h1 h2=>(hg.block b (Nat.lt_of_lt_of_le h1 hXW.size) (hne b h2)).trans (hXW.block b h1);have c8N:wN.cell? ⟨k8,0,none⟩=some ov:=(World.cell?_of_block (w:=X) (a:=⟨k8,0,none⟩) (hbN k8 hX.1 hl8.2.1)).trans c8;have f8N:wN.frozen? ⟨k8,0,none⟩=false:=(World.frozen?_of_block (w:=X) (a:=⟨k8,0,none⟩) (hbN k8 hX.1 hl8.2.1)).trans f8;refine⟨W2,va,vn,vc,wN,hW2,hrun,(hO.cell (p:=⟨k7,0,none⟩) h7).trans x7,c8O,f8O,c8W,c8N,f8N,qe ⟨?_,⟨?_,?_⟩,.slice va vn vc,World.cell?_setCell_same' _ _ _ (by rw[c8N];rfl),by rw[World.frozen?_setCell];exact f8N,?_,?_,?_⟩⟩
 ·refine((ug hXW).trans (KeepsOthers.of_grownBy hg fun j o e h=>?_)).trans (KeepsOthers.setCell _ _ _);obtain⟨_,h2,t,c,y,h3⟩:=hov j e;rw[hXW.block j h2,h3]at h;obtain rfl:=Option.some.inj h;rfl
 ·exact(Below.heap_setCell _ _ _ _ (fun e=>hl8.2.2.1 e.symm)).trans (hbN kB (Nat.lt_of_lt_of_le hX.2.1 hs) hX.2.1)
 ·exact(Below.heap_setCell _ _ _ _ (fun e=>hl8.2.2.2 e.symm)).trans (hbN kN (Nat.lt_of_lt_of_le hX.2.2 hs) hX.2.2)
 ·rw[List.map_append,List.map_singleton];exact hAN.keep fun b h1 _ _=>Below.heap_setCell _ _ _ _ (show b≠k8 by omega)
 ·have h5:=hB.size;refine((hB.trans (hXW.mono h5)).grown hg (Nat.le_trans h5 hXW.size) fun j hj=>?_).setCell (p:=⟨k8,0,none⟩) hl8.1 _;have:=(hov j hj).1;omega
 ·have h1:=hXW.size;have h2:=hg.size;simp only[World.size_setCell];omega
theorem answer_any (base h:Nat)(zs:List Nat)(H:List tr.Zn)(h0:0<zs.length)(h8:zs.length≤8)(hi:Int)(rs:Bool)(op:Int)(b3 b4 b5 b6 b7 b8:Bool)(rc:Int)(qs:List Qn)(an au ad:List Rec)
 (hq:qs.length≤1000000000000) (ha:an.length≤1000000000000) (hu:au.length≤1000000000000) (hd:ad.length≤1000000000000)
 (q a u d:Value) (fq:yz q) (w:World) (hh:xD w base h zs) (hz:Kt w zs H) (rq:yu w q qs) (ra:qm w a an) (ru:qm w u au) (rd:qm w d ad):
 Calls Tryz.prog 11 #[.pointer (some ⟨h,0,none⟩),yZ ⟨hi,rs,op,b3,b4,b5,b6,b7,b8,rc⟩ q a u d] w fun e w'=>ZG (tr.uV H ⟨⟨hi,rs,op,b3,b4,b5,b6,b7,b8,rc⟩,qs,an,au,ad⟩) qs w e w':=by
 obtain⟨w1,hw1⟩:∃X,X=w.alloc (.cells (yG ⟨hi,rs,op,b3,b4,b5,b6,b7,b8,rc⟩ q a u d).toArray 33):=⟨_,rfl⟩;obtain⟨hB1,hs1,hm1⟩:=zC hw1;obtain⟨bm,hbm⟩:∃b,b=w.heap.size:=⟨_,rfl⟩;rw[← hbm]at hm1;have hsm:(tr.qN H).l.length≤2000:=by
  have h1:=hz.1;unfold tr.qN;rw[tr.uL (by omega)];exact(hz.2 (H.length-1) (by omega) (by omega)).1.small
 have hrf:=tr.X6 H op qs au hsm;have HCK:=qe (XQ ⟨hi,rs,op,b3,b4,b5,b6,b7,b8,rc⟩ qs an au ad hq ha hu hd q a u d w1 (rq.below hB1) (ra.below hB1) (ru.below hB1) (rd.below hB1));have HRW:=qe (show wi.jE ⟨hi,rs,op,b3,b4,b5,b6,b7,b8,rc⟩ qs an au ad=true→∀X,Below w.heap.size w X→Calls Tryz.prog 35 #[.pointer (some ⟨h,0,none⟩),yZ ⟨hi,rs,op,b3,b4,b5,b6,b7,b8,rc⟩ q a u d] X fun e w'=>QN (tr.zL H op qs au) X e w' from fun hmb X hX=>
  hrow_any base h zs H h0 h8 hi rs op b3 b4 b5 b6 b7 b8 rc qs an au ad hmb q a u d X (hh.below hX) (hz.below hX) (rq.below hX) (ra.below hX) (ru.below hX) (rd.below hX))
 have HONE:=qe (show ∀(bc:Nat) (c:Int) (l:List Rec),l.length≤1000000→∀(v:Value),yz v→∀X,Below w1.heap.size w1 X→X.cell? ⟨bc,0,none⟩=some (.int .i64 c)→bc<X.heap.size→qm X v l→
  Calls Tryz.prog 36 #[v,.pointer (some ⟨bm,0,none⟩),.pointer (some ⟨bc,0,none⟩)] X fun e w'=>OnePost ⟨hi,rs,op,b3,b4,b5,b6,b7,b8,rc⟩ (c == 0) c qs l X e w' from fun bc c l hl v hf X hX hc hcl hr=>
  one_any bm bc _ qs hq q a u d fq c l hl v hf X (hm1.below hX) hc hcl (rq.below (hB1.trans (hX.mono hB1.size))) hr)
 obtain⟨qa,qc,rfl,-⟩:=id rq;obtain⟨aa,ac,rfl,-⟩:=id ra;obtain⟨ua,uc,rfl,-⟩:=id ru;obtain⟨da,dc,rfl,-⟩:=id rd;have HM:=qe hm1;have HW1:=qe hw1;have HBM:=qe hbm;have HB1:=qe hB1;have HRF:=qe hrf;clear hw1 hB1 hs1 hm1 hbm hsm hrf hh hz rq ra ru rd fq hq ha hu hd h0 h8;obtain⟨m0,m1,m2,m3,m4,m5,m6,m7,m8,m9,m10,m11,m12,m13⟩:=HM.out.facts;refine(callsIn_wide (n:=9)).1 ?_;refine callsIn_of_wp_marks Tryz.func11 rfl trivial ?_ rfl;refine wpIn_wide.2 ?_;simp only[Tryz.ntmps11,List.size_toArray,List.length_cons,List.length_nil,Nat.reduceAdd,Nat.reduceSub,Array.replicate_succ,Array.replicate_zero,List.push_toArray,List.append_toArray,List.nil_append,List.cons_append];go_upto_region 1 with fail;rw[← HW1.out,← HBM.out]
 cases rs
 ·obtain⟨mb,hmb⟩:∃b,b=wi.jE ⟨hi,false,op,b3,b4,b5,b6,b7,b8,rc⟩ qs an au ad:=⟨_,rfl⟩;rw[← hmb]at HCK HRW;have HMBB:=qe hmb;clear hmb;go_wp2_with fail;refine HCK.out.mono ?_;rintro e w2 ⟨rfl,hB2⟩;have HB2:=qe hB2;have xW:=qe (HB1.out.trans (hB2.mono HB1.out.size));clear hB2 m0 m1 m2 m3 m4 m5 m6 m7 m8 m9 m10 m11 m12 m13
  cases mb
  ·have HL:=qe (show tr.uV H ⟨⟨hi,false,op,b3,b4,b5,b6,b7,b8,rc⟩,qs,an,au,ad⟩= [] from if_pos (.inr HMBB.out.symm));have d0:(wi.okI false != 0)=true:=rfl;go_wp2_with fail
   (try simp only[Exit.inBlock,Exit.then])
   exact Jw rfl rfl (Xe HL.out xW.out)
  ·have HL:=qe (show tr.uV H ⟨⟨hi,false,op,b3,b4,b5,b6,b7,b8,rc⟩,qs,an,au,ad⟩=tr.Q3 (hdA ⟨hi,false,op,b3,b4,b5,b6,b7,b8,rc⟩ ((tr.zL H op qs au).2 == 0) (tr.zL H op qs au).2) qs (tr.jg (tr.zL H op qs au).1 (tr.vW (tr.zL H op qs au).1)) from if_neg (by rw[← HMBB.out];simp));have d0:(wi.okI true != 0)=false:=rfl;obtain⟨m0,m1,m2,m3,m4,m5,m6,m7,m8,m9,m10,m11,m12,m13⟩:=(HM.out.below HB2.out).facts;go_wp2_with fail;refine(HRW.out (by trivial) w2 xW.out).mono ?_;rintro e w3 ⟨v3,rfl,hB3,hO3⟩;obtain⟨R,hR⟩:∃R,R=(tr.zL H op qs au).1:=⟨_,rfl⟩;obtain⟨c,hc⟩:∃c,c=(tr.zL H op qs au).2:=⟨_,rfl⟩;rw[← hR,← hc]at HL HRF;rw[← hR]at hO3;rw[← hc];obtain⟨al,cl,rfl,-⟩:=qi hO3;obtain⟨w4,hw4⟩:∃X,X=w3.alloc (.cells #[.int .i64 c] 3):=⟨_,rfl⟩;obtain⟨k6,hk6⟩:∃b,b=w3.heap.size:=⟨_,rfl⟩;have hB4:Below w3.heap.size w3 w4:=by rw[hw4];exact(Below.refl _ _).alloc (Nat.le_refl _) _
   have hn6:w4.heap[k6]? =some (.cells #[.int .i64 c] 3 (0,0)):=by rw[hw4,hk6];exact qz rfl
   obtain⟨w5,hw5⟩:∃X,X=(w4.alloc (.cells #[.nilFunc] 81)).setCell ⟨w4.heap.size,0,none⟩ (.func (.func 36) #[] #[.pointer (some ⟨bm,0,none⟩),.pointer (some ⟨k6,0,none⟩)]):=⟨_,rfl⟩;obtain⟨k7,hk7⟩:∃b,b=w4.heap.size:=⟨_,rfl⟩;have hB5:Below w4.heap.size w4 w5:=by rw[hw5];exact((Below.refl _ _).alloc (Nat.le_refl _) _).setCell (p:=⟨w4.heap.size,0,none⟩) (Nat.le_refl _) _
   have hn7:w5.heap[k7]? =some (.cells #[(.func (.func 36) #[] #[.pointer (some ⟨bm,0,none⟩),.pointer (some ⟨k6,0,none⟩)])] 81 (0,0)):=by rw[hw5,hk7];exact(qC (qz rfl) 0 _).trans rfl
   have hst:(store ⟨w4.heap.size,0,none⟩ (.func (.func 36) #[] #[.pointer (some ⟨bm,0,none⟩),.pointer (some ⟨k6,0,none⟩)])).run Tryz.prog (w4.alloc (.cells #[.nilFunc] 81))= .ok () w5:=by rw[hw5];exact store_fn (zw w4 .nilFunc _).1 (zw w4 .nilFunc _).2
   have um:=qe (xW.out.trans (hB3.mono xW.out.size));have XC:=qe (HB2.out.trans (hB3.mono HB2.out.size));have hB35:=hB4.trans (hB5.mono hB4.size);have Y0:=qe (um.out.trans (hB35.mono um.out.size));have HB25:=qe (XC.out.trans (hB35.mono XC.out.size));have HO5:=qe (ownsRow_below (qG hO3 xW.out.size) hB35);have HC6:=qe (show ∀X,Below w5.heap.size w5 X→X.cell? ⟨k6,0,none⟩=some (.int .i64 c)∧k6<X.heap.size from fun X hX=>by
    have h1:=(hX.block k6 (Nat.lt_of_lt_of_le (qA hn6) hB5.size)).trans ((hB5.block k6 (qA hn6)).trans hn6);exact⟨by rw[qh h1];rfl,qA h1⟩)
   have HX7:=qe (qA hn7);have HC7:=qe (show ∀X,Below w5.heap.size w5 X→X.cell? ⟨k7,0,none⟩=some (.func (.func 36) #[] #[.pointer (some ⟨bm,0,none⟩),.pointer (some ⟨k6,0,none⟩)]) from fun X hX=>by rw[qh ((hX.block k7 (qA hn7)).trans hn7)];rfl);have HW4:=qe hw4;have HK6:=qe hk6;have HW5:=qe hw5;have HK7:=qe hk7;have hcf:∀args w,(callFunc 36 args).run Tryz.prog w= .ok (.enter 36 args) w:=fun _ _=>by kernel_rfl
   clear hR hc hB3 hO3 hB4 hn6 hw4 hk6 hw5 hk7 hB5 hn7 hB35 d0 m0 m1 m2 m3 m4 m5 m6 m7 m8 m9 m10 m11 m12 m13;go_upto_region 4 with fail;rw[← HW4.out,← HK6.out];go_upto_region 5 with fail;rw[← HK7.out];clear hst;have x6:=(HC6.out w5 (Below.refl _ _)).1;have x7:=HC7.out w5 (Below.refl _ _);rcases HRF.out with⟨hc0,hne,hlen⟩|⟨hnc,hnil⟩
   ·have e1:(c != 0)=false:=by rw[bne_eq_false_iff_eq];exact hc0
    have HN:=qe (tr.partN_in hne);have hpos:=List.length_pos_iff.2 hne;obtain⟨g3,cap3,hv,-,-⟩:=HO5.out.form hpos;simp only[Value.slice.injEq,true_and]at hv;obtain⟨rfl,rfl⟩:=hv;have hcap:R.length≤cl:=by
     obtain⟨_,_,hv,hc⟩:=qi HO5.out;simp only[Value.slice.injEq,true_and]at hv;obtain⟨_,rfl⟩:=hv;exact hc
    obtain⟨t,ht⟩:∃t,t=(c == 0):=⟨_,rfl⟩;obtain⟨hd,hhd⟩:∃x,x=hdA ⟨hi,false,op,b3,b4,b5,b6,b7,b8,rc⟩ t c:=⟨_,rfl⟩;rw[← ht,← hhd]at HL;have HHD:=qe hhd;have HT:=qe ht;obtain⟨N,hN⟩:∃N,N=tr.vW R:=⟨_,rfl⟩;rw[← hN]at HL HN;obtain⟨w8,hw8⟩:∃X,X=w5.alloc (.cells #[.slice none 0 0] 23):=⟨_,rfl⟩;obtain⟨k8,hk8⟩:∃b,b=w5.heap.size:=⟨_,rfl⟩;have hB8:Below w5.heap.size w5 w8:=by rw[hw8];exact(Below.refl _ _).alloc (Nat.le_refl _) _
    have hn8:w8.heap[k8]? =some (.cells #[.slice none 0 0] 23 (0,0)):=by rw[hw8,hk8];exact qz rfl
    have HW8:=qe hw8;have HK8:=qe hk8;have HLEN:=qe hlen;clear hc0 hne hlen hpos ht hhd hN hw8;go_upto_region 8 with fail;rw[← HW8.out,← HK8.out];go_wp2_with fail;refine(chunk_any (some ⟨g3,0,none⟩) R.length cl w8).mono ?_;rintro e w9 ⟨rfl,hw9⟩;obtain⟨kB,hkB⟩:∃b,b=w8.heap.size:=⟨_,rfl⟩;obtain⟨kN,hkN⟩:∃b,b=w8.heap.size+1:=⟨_,rfl⟩;rw[← hkN,← hkB];have hB9:Below w8.heap.size w8 w9:=by rw[hw9];exact((Below.refl _ _).alloc (Nat.le_refl _) _).alloc (by simp) _
    have hsz9:w9.heap.size=w8.heap.size+2:=by rw[hw9];simp
    have hnB:w9.cell? ⟨kB,0,none⟩=some (.slice (some ⟨g3,0,none⟩) R.length cl):=by rw[hw9,hkB];exact qw _ (zw w8 _ _).1
    have hnN:w9.cell? ⟨kN,0,none⟩=some (.int .i64 16):=by
     have h1:=(zw (w8.alloc (.cells #[.slice (some ⟨g3,0,none⟩) R.length cl] 31)) (.int .i64 16) 3).1;rw[World.size_alloc,← hkN]at h1;rw[hw9];exact h1
    have hn8':=(hB9.block k8 (qA hn8)).trans hn8;have hl8:w5.heap.size≤k8∧k8<w9.heap.size∧k8≠kB∧k8≠kN:=by have:=qA hn8;omega
    have hBl:kB<w9.heap.size:=by omega
    have hBm:kN<w9.heap.size:=by omega
    have HB59:=qe (hB8.trans (hB9.mono hB8.size));have HL8:=qe hl8;have hcp:R.length≤1000000:=by have:=HLEN.out;omega
    have hNN:=HN.out;clear hw9 hkB hkN hB9 hsz9 hn8 hl8 x6 x7 hB8 hk8 e1;go_wp2_with fail;refine(wpIn_wide (n:=9)).1 ?_;refine wpIn_rangeFunc_ownF rfl (by omega) (gf:=71) (lb:=#[.pointer (some ⟨kB,0,none⟩),.pointer (some ⟨kN,0,none⟩)]) rfl trivial (enters_of Tryz.func71 (by kernel_rfl) rfl)
     (chunk_stops Fence.wide (9-1) trivial rfl (by omega) kB kN g3 R.length cl N hcp hcap ⟨hNN.1,hNN.2.1⟩ w9 hBl hBm hnB hnN) (fun h1 h2=>⟨uA h1.1 h2.1,uA h1.2 h2.2⟩) (fun W l o o' hl h1 h2 h3=>⟨uB hBl W l o o' hl h1 h2 h3,uB hBm W l o o' hl h1 h2 h3⟩) (Below.refl _ _) (fun _=>rfl)
     (fun pre X=>AnsIn w5 w9 k8 hd qs R N pre X) (fun _ _ _=>False) (ansIn_own HB59.out.size) (fun _ _ _ _ _ h _ _=>h)
     ⟨.slice none 0 0,by rw[qh hn8'];rfl,qE hn8' 0,ansOwn_nil _ _ _ _,HB59.out,Nat.le_refl _⟩ ?a1 ?assign ?body ?done ?stop
    case assign=>
     intro l x X K hK;have HKK:=qe hK;clear hK
     gi_wp2
     exact HKK.out
    case body=>
     rintro l pre x X ⟨ov,c8,f8,hA,hB,hs⟩ hlen;obtain⟨xk,hxk⟩:=x;have hf1:Fence.wide.fn 36:=trivial;have x7:=HC7.out X hB;have hRX:=qD (ownsRow_below HO5.out hB);have hpl:=part_eq (l:=R) (k:=xk);have hrp:=Ve hRX (xk*16) (L:=tr.jF R xk) (c:=(tr.jF R xk).length) (by omega) (fun i h=>part_get i h) (Nat.le_refl _);have HCO:=qe (HONE.out k6 c (tr.jF R xk) (by have:=tr.Jb R xk;omega) (partV g3 R.length xk) (.inr ⟨_,_,_,_,rfl⟩) X.drew (HB25.out.trans (hB.drew.mono HB25.out.size)) (HC6.out X.drew hB.drew).1 (HC6.out X.drew hB.drew).2 (by
      have e1:partV g3 R.length xk= .slice (some ⟨g3,xk*16*5,none⟩) (tr.jF R xk).length (tr.jF R xk).length:=by unfold partV;rw[hpl]
      rw[e1];exact hrp.below (Below.refl _ _).drew))
     have HA:=qe hA;have HB:=qe hB;have HS:=qe hs;have HPL:=qe (show(pre.map (partAt R N)).length≤1000 by rw[List.length_map];have:=HLEN.out;omega);clear hA hB hs hlen hRX hpl hrp;have HX:=qe (show k8<X.heap.size∧kB<w9.heap.size∧kN<w9.heap.size by have h1:=HS.out;have h2:=HL8.out.2.1;omega);rw[← HT.out]at HCO
     gi_wp2
     have HAM:=qe (show ∀(wO:World) (qO rO:Value),Below X.drew.heap.size X.drew wO→wO.ownsRow X.drew.heap.size 78 3 qO qs.length (xI qs)→wO.ownsRow X.drew.heap.size 80 5 rO (tr.jF R xk).length (qp (tr.jF R xk))→(∀b,qO.ownBlock=some b→rO.ownBlock≠some b)→_ from fun wO qO rO h1 h2 h3 h4=>
      ans_more w5 w9 X wO k7 k8 kB kN hd qs R N pre ⟨xk,hxk⟩ ov _ c8 f8 HA.out HB.out HS.out x7 HL8.out HX.out (Nat.lt_of_lt_of_le HX7.out HB.out.size) HPL.out (Below.trans (B:=X.heap.size) (a:=X) (Below.refl _ _).drew h1) qO rO h2 h3 h4)
     gi_region_with (gi_at_call 36;(with_reducible refine(ZQ HCO.out).mono ?_);rintro e wO ⟨qO,rO,rfl,hbO,hoqO,horO,hapO⟩;rw[← HHD.out];obtain⟨W2,va,vn,vc,wN,hW2,hrun,x7O,c8O,f8O,c8W,c8N,f8N,HGO⟩:=HAM.out wO qO rO hbO hoqO horO hapO;obtain⟨qOa,qOc,rfl,-⟩:=qi hoqO;obtain⟨rOa,rOc,rfl,-⟩:=qi horO;rw[hW2]at hrun c8W;clear hW2 hbO hoqO horO hapO;simp[go_sem]at hrun)
     all_goals
      (try gi_wp2)
      exact HGO.out
    case done=>
     rintro D xs X hD hS ⟨ov,c8,f8,hA,hB,hs⟩ hK;have hxs:xs.map (partAt R N)=tr.jg R N:=by
      have h1:xs.map (partAt R N)=(xs.map (·.1)).map (tr.jF R):=by rw[List.map_map];rfl
      rw[h1,hS];rfl
     rw[hxs]at hA;have HF:=qe (show ZG (tr.uV H ⟨⟨hi,false,op,b3,b4,b5,b6,b7,b8,rc⟩,qs,an,au,ad⟩) qs w (.returned ov) X from
      ⟨hd,tr.jg R N,ov,HL.out,by rw[tr.Yc];have:=HN.out;have:=HLEN.out;omega,fun p hp=>by
       unfold tr.jg at hp;obtain⟨j,_,rfl⟩:=List.mem_map.1 hp;exact tr.Jb R j,rfl,Y0.out.trans (hB.mono Y0.out.size),hA.ZC (Nat.le_trans Y0.out.size HB59.out.size)⟩)
     have HD:=qe hD;have HK:=qe hK;clear hxs hS hA hB hs hD hK;go_wp2_with fail
     (try simp only[Exit.inBlock,Exit.then])
     exact ans_leaveD rfl rfl (Nat.le_trans Y0.out.size (Nat.le_trans HB59.out.size HD.out)) HK.out HF.out
    case stop=>
     rintro D c' pre X _ _ h _;exact h.elim
   ·have e1:(c != 0)=true:=by rw[bne_iff_ne];exact hnc
    clear hnc;go_wp2_with fail;refine(HONE.out k6 c [] (by simp) (.slice none 0 0) (.inl rfl) w5 HB25.out (HC6.out w5 (Below.refl _ _)).1 (HC6.out w5 (Below.refl _ _)).2 (nil_recs7 _)).mono ?_;rintro e w6 ⟨q6,r6,rfl,hB6,hoq,hor,hap⟩;obtain⟨t,ht⟩:∃t,t=(c == 0):=⟨_,rfl⟩;obtain⟨hd,hhd⟩:∃x,x=hdA ⟨hi,false,op,b3,b4,b5,b6,b7,b8,rc⟩ t c:=⟨_,rfl⟩;have hL:=HL.out;rw[← ht,← hhd,hnil]at hL;rw[← ht,← hhd];have HB6:=qe (Y0.out.trans (hB6.mono Y0.out.size));have hF:ZG (tr.uV H ⟨⟨hi,false,op,b3,b4,b5,b6,b7,b8,rc⟩,qs,an,au,ad⟩) qs w (.returned (.slice (some ⟨w6.heap.size,0,none⟩) 1 1)) (w6.alloc (.cells (yG hd q6 r6 (.slice none 0 0) (.slice none 0 0)).toArray 33)):=by
     have hs5:=Y0.out.size;have hBn:Below w6.heap.size w6 (w6.alloc (.cells (yG hd q6 r6 (.slice none 0 0) (.slice none 0 0)).toArray 33)):=(Below.refl _ _).alloc (Nat.le_refl _) _;refine⟨hd,[[]],_,hL,by simp,fun p hp=>by rw[List.mem_singleton.1 hp];simp,rfl,HB6.out.trans (hBn.mono HB6.out.size),[(q6,r6)],rfl,?_,fun k k1 k2=>?_,⟨List.pairwise_singleton _ _,fun p hp=>by rw[List.mem_singleton.1 hp];exact hap⟩,fun b hb p hp=>?_⟩
     ·exact World.ownsRow_lit w6 (yG hd q6 r6 (.slice none 0 0) (.slice none 0 0)).toArray 1 HB6.out.size (by unfold maxLen;omega) rfl
     ·simp only[List.length_singleton]at k1;obtain rfl:k=0:=by omega
      exact⟨qG (ownsRow_below hoq hBn) hs5,qG (ownsRow_below hor hBn) hs5⟩
     ·rw[List.mem_singleton.1 hp];simp only[Value.ownBlock,Option.some.injEq]at hb;subst hb;exact⟨fun h=>by have:=(hoq.lt _ h).2;omega,fun h=>by have:=(hor.lt _ h).2;omega⟩
    have HF:=qe hF;obtain⟨q6a,q6c,rfl,-⟩:=qi hoq;obtain⟨r6a,r6c,rfl,-⟩:=qi hor;clear hF hL hB6 hoq hor hap ht hhd x6 x7 e1;go_wp2_with fail
    (try simp only[Exit.inBlock,Exit.then])
    exact Jw rfl rfl HF.out
 ·have HL:=qe (show tr.uV H ⟨⟨hi,true,op,b3,b4,b5,b6,b7,b8,rc⟩,qs,an,au,ad⟩= [] from if_pos (.inl rfl));go_wp2_with fail
  (try simp only[Exit.inBlock,Exit.then])
  exact Jw rfl rfl (Xe HL.out HB1.out)
end Go.Proofs.YtpcmilhjpmlbpaaGreatDoor
