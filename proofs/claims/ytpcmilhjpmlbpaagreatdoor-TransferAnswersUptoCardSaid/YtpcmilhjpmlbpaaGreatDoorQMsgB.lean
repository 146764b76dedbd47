import Derived.Test.YtpcmilhjpmlbpaaGreatDoorQTrQ
import Derived.Deep.RegionWith
import Derived.Deep.DeepMust
namespace Go.Proofs.YtpcmilhjpmlbpaaGreatDoor
open Go.RowKit Go.Shelf nm od
def xI (l:List Qn):List Value:=l.flatMap qnC
theorem qnsC_len (l:List Qn):(xI l).length=l.length*3:=by
 induction l with
 | nil=>rfl
 | cons a t ih=>
   have e:xI (a :: t)=qnC a ++ xI t:=rfl;rw[e,List.length_append,ih,List.length_cons];show 3+t.length*3=(t.length+1)*3;omega
theorem qns_one (l:List Qn):∀u∈xI l,u.oneCell'=true:=fun u hu=>by
 unfold xI at hu;obtain⟨r,_,hr⟩:=List.mem_flatMap.1 hu;simp only[List.mem_cons,List.not_mem_nil,or_false]at hr;rcases hr with rfl | rfl | rfl <;> rfl
theorem qnsC_at:∀(l:List Qn) (t:Nat) (ht:t<l.length*3),(xI l)[t]? =(qnC (l[t / 3]'(by omega)))[t % 3]?
 | [],t,ht=>absurd ht (by simp)
 | a :: r,t,ht=>by
   have e:xI (a :: r)= .string a.name :: .int .i64 a.typ :: .int .i64 a.cls :: xI r:=rfl;rw[e]
   match t,ht with
   | 0,_=>rfl
   | 1,_=>rfl
   | 2,_=>rfl
   | t+3,ht=>
     have ih:=qnsC_at r t (by simp at ht;omega);simp only[List.getElem?_cons_succ];rw[ih];have h1:(t+3) / 3=t / 3+1:=by omega
     have h2:(t+3) % 3=t % 3:=by omega
     simp only[h1,h2,List.getElem_cons_succ]
theorem qns_cells {w:World}{b off n cap:Nat}{l:List Qn}(h:yu w (.slice (some ⟨b,off,none⟩) n cap) l):n=l.length∧∀j u,(xI l)[j]? =some u→w.cell? ⟨b,off+j,none⟩=some u:=by
 obtain⟨a',cap',hv,_,hr⟩:=h;simp only[Value.slice.injEq]at hv;refine⟨hv.2.1,fun j u hu=>?_⟩;have hj:j<l.length*3:=by
  have:=(List.getElem?_eq_some_iff.1 hu).1
  rwa [qnsC_len]at this
 rw[qnsC_at l j hj]at hu;obtain⟨b',off',ha,_,c0,c1,c2⟩:=hr (j / 3) (by omega);rw[← hv.1]at ha;simp only[Option.some.injEq,Addr.mk.injEq,and_true]at ha;obtain⟨rfl,rfl⟩:=ha;have hd:j=j / 3*3+j % 3:=by omega
 have hm:j % 3<3:=Nat.mod_lt _ (by omega);rw[show off+j=off+j / 3*3+j % 3 by omega];have key:∀i,i<3→(qnC (l[j / 3]'(by omega)))[i]? =some u→w.cell? ⟨b,off+j / 3*3+i,none⟩=some u:=fun i hi h=>by
  match i,hi with
  | 0,_=>simp only[List.getElem?_cons_zero,Option.some.injEq]at h;rw[← h];exact c0
  | 1,_=>simp only[List.getElem?_cons_succ,List.getElem?_cons_zero,Option.some.injEq]at h;rw[← h];exact c1
  | 2,_=>simp only[List.getElem?_cons_succ,List.getElem?_cons_zero,Option.some.injEq]at h;rw[← h];exact c2
 exact key _ hm hu
theorem owns_qns {w:World}{base:Nat}{v:Value}{l:List Qn}(h:w.ownsRow base 78 3 v l.length (xI l)):yu w v l:=by
 obtain⟨a,cap,rfl,hc⟩:=qi h;refine⟨a,cap,rfl,hc,fun k hk=>?_⟩;obtain⟨g,cap',hv,_,_⟩:=h.form (by omega);simp only[Value.slice.injEq,true_and]at hv;obtain⟨rfl,rfl⟩:=hv;refine⟨g,0,rfl,(h.lt g rfl).2,?_⟩;have e:∀i,i<3→w.cell? ⟨g,0+k*3+i,none⟩=(qnC l[k])[i]?:=fun i hi=>by
  rw[h.cellAt _ (by omega),qnsC_at l _ (by omega)];have h1:(0+k*3+i) / 3=k:=by omega
  have h2:(0+k*3+i) % 3=i:=by omega
  simp only[h1,h2]
 exact⟨e 0 (by omega),e 1 (by omega),e 2 (by omega)⟩
theorem info_qn:(Tryz.prog.info? 78).map (fun i=>(i.zero,i.size,i.bytes))=some (some (.agg #[.string ⟨#[]⟩,.int .i64 0,.int .i64 0]),3,32):=by kernel_rfl
def yw (w:World)(base g cap:Nat)(l:List Rec):Prop:=w.ownsRow base 80 5 (.slice (some ⟨g,0,none⟩) (l.length+2) cap) (l.length+2) (qp (l ++ [zz,zz]))∧l.length+2≤cap
theorem yw.below {w w':World}{base g cap:Nat}{l:List Rec}(h:yw w base g cap l)(hB:Below w.heap.size w w'):yw w' base g cap l:=⟨ownsRow_below h.1 hB,h.2⟩
theorem yw.ZC {w:World}{base base' g cap:Nat}{l:List Rec}(h:yw w base g cap l)(hb:base'≤base):yw w base' g cap l:=⟨qG h.1 hb,h.2⟩
theorem yw.lt {w:World}{base g cap:Nat}{l:List Rec}(h:yw w base g cap l):base≤g∧g<w.heap.size:=h.1.lt g rfl
theorem yw.recs {w:World}{base g cap:Nat}{l:List Rec}(h:yw w base g cap l):qm w (.slice (some ⟨g,0,none⟩) l.length cap) l:=by
 have hfull:qm w (.slice (some ⟨g,0,none⟩) (l.length+2) cap) (l ++ [zz,zz]):=qD (base:=base) (by rw[List.length_append];exact h.1);have:=Zz (k:=l.length) hfull (by rw[List.length_append];omega);rw[List.take_left]at this;exact this
section
variable {w:World}{b:Nat}{h:Hd}{q a u d:Value}
theorem qy.set0 (hb:qy w b h q a u d)(v:Int):qy (w.setCell ⟨b,0,none⟩ (.int .i64 v)) b { h with id:=v} q a u d:=(qC hb 0 (.int .i64 v)).trans rfl
theorem qy.set1 (hb:qy w b h q a u d)(v:Bool):qy (w.setCell ⟨b,1,none⟩ (.bool v)) b { h with Um:=v} q a u d:=(qC hb 1 (.bool v)).trans rfl
theorem qy.set2 (hb:qy w b h q a u d)(v:Int):qy (w.setCell ⟨b,2,none⟩ (.int .i64 v)) b { h with op:=v} q a u d:=(qC hb 2 (.int .i64 v)).trans rfl
theorem qy.set3 (hb:qy w b h q a u d)(v:Bool):qy (w.setCell ⟨b,3,none⟩ (.bool v)) b { h with aa:=v} q a u d:=(qC hb 3 (.bool v)).trans rfl
theorem qy.set4 (hb:qy w b h q a u d)(v:Bool):qy (w.setCell ⟨b,4,none⟩ (.bool v)) b { h with tc:=v} q a u d:=(qC hb 4 (.bool v)).trans rfl
theorem qy.set5 (hb:qy w b h q a u d)(v:Bool):qy (w.setCell ⟨b,5,none⟩ (.bool v)) b { h with rd:=v} q a u d:=(qC hb 5 (.bool v)).trans rfl
theorem qy.set6 (hb:qy w b h q a u d)(v:Bool):qy (w.setCell ⟨b,6,none⟩ (.bool v)) b { h with ra:=v} q a u d:=(qC hb 6 (.bool v)).trans rfl
theorem qy.set7 (hb:qy w b h q a u d)(v:Bool):qy (w.setCell ⟨b,7,none⟩ (.bool v)) b { h with ad:=v} q a u d:=(qC hb 7 (.bool v)).trans rfl
theorem qy.set8 (hb:qy w b h q a u d)(v:Bool):qy (w.setCell ⟨b,8,none⟩ (.bool v)) b { h with cd:=v} q a u d:=(qC hb 8 (.bool v)).trans rfl
theorem qy.set9 (hb:qy w b h q a u d)(v:Int):qy (w.setCell ⟨b,9,none⟩ (.int .i64 v)) b { h with jq:=v} q a u d:=(qC hb 9 (.int .i64 v)).trans rfl
theorem qy.set10 (hb:qy w b h q a u d)(v:Value):qy (w.setCell ⟨b,10,none⟩ v) b h v a u d:=(qC hb 10 v).trans rfl
theorem qy.set11 (hb:qy w b h q a u d)(v:Value):qy (w.setCell ⟨b,11,none⟩ v) b h q v u d:=(qC hb 11 v).trans rfl
theorem qy.set12 (hb:qy w b h q a u d)(v:Value):qy (w.setCell ⟨b,12,none⟩ v) b h q a v d:=(qC hb 12 v).trans rfl
theorem qy.set13 (hb:qy w b h q a u d)(v:Value):qy (w.setCell ⟨b,13,none⟩ v) b h q a u v:=(qC hb 13 v).trans rfl
end
theorem jS {w:World}{b:Nat}{h0:Hd}{q0 a0 u0 d0:Value}(hb:qy w b h0 q0 a0 u0 d0)(h:Hd)(q a u d:Value):
 qy ((((((((((((((w.setCell ⟨b,0,none⟩ (.int .i64 h.id)).setCell ⟨b,1,none⟩ (.bool h.Um)).setCell ⟨b,2,none⟩ (.int .i64 h.op)).setCell ⟨b,3,none⟩ (.bool h.aa)).setCell ⟨b,4,none⟩ (.bool h.tc)).setCell ⟨b,5,none⟩ (.bool h.rd)).setCell ⟨b,6,none⟩ (.bool h.ra)).setCell ⟨b,7,none⟩ (.bool h.ad)).setCell ⟨b,8,none⟩ (.bool h.cd)).setCell ⟨b,9,none⟩ (.int .i64 h.jq)).setCell ⟨b,10,none⟩ q).setCell ⟨b,11,none⟩ a).setCell ⟨b,12,none⟩ u).setCell ⟨b,13,none⟩ d) b h q a u d∧
 w.grownBy ((((((((((((((w.setCell ⟨b,0,none⟩ (.int .i64 h.id)).setCell ⟨b,1,none⟩ (.bool h.Um)).setCell ⟨b,2,none⟩ (.int .i64 h.op)).setCell ⟨b,3,none⟩ (.bool h.aa)).setCell ⟨b,4,none⟩ (.bool h.tc)).setCell ⟨b,5,none⟩ (.bool h.rd)).setCell ⟨b,6,none⟩ (.bool h.ra)).setCell ⟨b,7,none⟩ (.bool h.ad)).setCell ⟨b,8,none⟩ (.bool h.cd)).setCell ⟨b,9,none⟩ (.int .i64 h.jq)).setCell ⟨b,10,none⟩ q).setCell ⟨b,11,none⟩ a).setCell ⟨b,12,none⟩ u).setCell ⟨b,13,none⟩ d) (some b):=by
 have e:=(((((((((((((hb.set0 h.id).set1 h.Um).set2 h.op).set3 h.aa).set4 h.tc).set5 h.rd).set6 h.ra).set7 h.ad).set8 h.cd).set9 h.jq).set10 q).set11 a).set12 u).set13 d;refine⟨e,?_⟩;have g:∀(W:World) (i:Nat) (v:Value),W.grownBy (W.setCell ⟨b,i,none⟩ v) (some b):=fun W i v=>grownBy_setCell W ⟨b,i,none⟩ v;exact(((((((((((((g _ _ _).trans (g _ _ _)).trans (g _ _ _)).trans (g _ _ _)).trans (g _ _ _)).trans (g _ _ _)).trans (g _ _ _)).trans (g _ _ _)).trans (g _ _ _)).trans (g _ _ _)).trans (g _ _ _)).trans (g _ _ _)).trans (g _ _ _)).trans (g _ _ _)
theorem msg_size:(Tryz.prog.info? 33).map (·.size)=some 14:=by kernel_rfl
theorem msg_ret {fn:Func}{p:Tmp}(hf:fn.results= #[.cell p 33]){R:Ending→World→Prop}{a:Act}{w:World}{g:Nat}{h:Hd}{q x u d:Value}(hp:a.tmps.getD p undef= .pointer (some ⟨g,0,none⟩))
 (hd:a.defers= []) (hg:qy w g h q x u d) (hR:R (.returned (yZ h q x u d)) w):bodyPost Tryz.prog fn R .ret a w:=
 bodyPost_ret_by (results_cell_row hf _ w g _ _ _ _ hp hg Tryz.underlying33 rfl msg_size) hd hR
abbrev hd0:Hd:=⟨0,false,0,false,false,false,false,false,false,0⟩
def SlotV (X:World)(mb:Nat)(v:Value)(l:List Rec):Prop:=qm X v l∧yz v∧(l= []∨v.ownBlock≠some mb)
theorem SlotV.below {X Y:World}{mb:Nat}{v:Value}{l:List Rec}(h:SlotV X mb v l)(hB:Below X.heap.size X Y):SlotV Y mb v l:=⟨h.1.below hB,h.2⟩
theorem recs_keepOne {X Y:World}{v:Value}{l:List Rec}(h:qm X v l)(hs:X.heap.size≤Y.heap.size)(hk:l≠[]→∀b,v.ownBlock=some b→Y.heap[b]? =X.heap[b]?):qm Y v l:=by
 obtain⟨a,cap,rfl,hc,hr⟩:=h;refine⟨a,cap,rfl,hc,fun k hk2=>?_⟩;obtain⟨b,off,rfl,hbl,hra⟩:=hr k hk2;exact⟨b,off,rfl,Nat.lt_of_lt_of_le hbl hs,hra.keep (hk (List.length_pos_iff.1 (by omega)) b rfl)⟩
theorem SlotV.set {X:World}{mb i:Nat}{v x:Value}{l:List Rec}(h:SlotV X mb v l):SlotV (X.setCell ⟨mb,i,none⟩ x) mb v l:=
 ⟨recs_keepOne h.1 (by simp[World.setCell]) fun hl b hb=>Below.heap_setCell _ _ _ _ (fun e=>h.2.2.elim hl (fun h2=>h2 (by rw[hb,e]))),h.2⟩
theorem yw.JW {w w':World}{base g cap:Nat}{l:List Rec}(h:yw w base g cap l)(hk:w'.heap[g]? =w.heap[g]?):yw w' base g cap l:=
 ⟨qj h.1 fun b hb=>by simp only[Value.ownBlock,Option.some.injEq]at hb;subst hb;exact hk,h.2⟩
theorem yw.sets {w:World}{base g cap mb:Nat}{l:List Rec}(h:yw w base g cap l)(hne:g≠mb)(v1 v2 v3:Value):yw (((w.setCell ⟨mb,11,none⟩ v1).setCell ⟨mb,12,none⟩ v2).setCell ⟨mb,13,none⟩ v3) base g cap l:=
 ((h.JW (Below.heap_setCell _ _ _ _ hne)).JW (Below.heap_setCell _ _ _ _ hne)).JW (Below.heap_setCell _ _ _ _ hne)
theorem twins_done {w3 wA wU wD:World}{mb ga ca gu cu gd cd:Nat}{h:Hd}{q a u d:Value}{an au ad:List Rec}(hmb:mb<w3.heap.size)
 (hbA:Below w3.drew.heap.size w3.drew wA) (hbU:Below wA.heap.size wA wU) (hbD:Below wU.heap.size wU wD) (hm:qy wD mb h q a u d) (hD:Below w3.heap.size w3 wD)
 (ta:yw wA w3.drew.heap.size ga ca an) (tu:yw wU wA.heap.size gu cu au) (td:yw wD wU.heap.size gd cd ad):
 ∃ga' ca' gu' cu' gd' cd',w3.grownBy (((wD.setCell ⟨mb,11,none⟩ (.slice (some ⟨ga,0,none⟩) an.length ca)).setCell ⟨mb,12,none⟩ (.slice (some ⟨gu,0,none⟩) au.length cu)).setCell ⟨mb,13,none⟩ (.slice (some ⟨gd,0,none⟩) ad.length cd)) (some mb)∧
  qy (((wD.setCell ⟨mb,11,none⟩ (.slice (some ⟨ga,0,none⟩) an.length ca)).setCell ⟨mb,12,none⟩ (.slice (some ⟨gu,0,none⟩) au.length cu)).setCell ⟨mb,13,none⟩ (.slice (some ⟨gd,0,none⟩) ad.length cd)) mb h q (.slice (some ⟨ga',0,none⟩) an.length ca') (.slice (some ⟨gu',0,none⟩) au.length cu') (.slice (some ⟨gd',0,none⟩) ad.length cd')∧
  yw (((wD.setCell ⟨mb,11,none⟩ (.slice (some ⟨ga,0,none⟩) an.length ca)).setCell ⟨mb,12,none⟩ (.slice (some ⟨gu,0,none⟩) au.length cu)).setCell ⟨mb,13,none⟩ (.slice (some ⟨gd,0,none⟩) ad.length cd)) w3.heap.size ga' ca' an∧
  yw (((wD.setCell ⟨mb,11,none⟩ (.slice (some ⟨ga,0,none⟩) an.length ca)).setCell ⟨mb,12,none⟩ (.slice (some ⟨gu,0,none⟩) au.length cu)).setCell ⟨mb,13,none⟩ (.slice (some ⟨gd,0,none⟩) ad.length cd)) w3.heap.size gu' cu' au∧
  yw (((wD.setCell ⟨mb,11,none⟩ (.slice (some ⟨ga,0,none⟩) an.length ca)).setCell ⟨mb,12,none⟩ (.slice (some ⟨gu,0,none⟩) au.length cu)).setCell ⟨mb,13,none⟩ (.slice (some ⟨gd,0,none⟩) ad.length cd)) w3.heap.size gd' cd' ad:=by
 have hz:w3.drew.heap.size=w3.heap.size:=rfl;have s1:=hbA.size;have s2:=hbU.size;have e1:=ta.lt.1;have e2:=tu.lt.1;have e3:=td.lt.1;have g:∀(W:World) (i:Nat) (v:Value),W.grownBy (W.setCell ⟨mb,i,none⟩ v) (some mb):=fun W i v=>grownBy_setCell W ⟨mb,i,none⟩ v;have g0:w3.grownBy wD (some mb):=⟨hD.os,hD.tape,hD.output,hD.size,fun k hk _=>hD.block k hk⟩;have ta':yw wD w3.heap.size ga ca an:=(ta.below (hbU.trans (hbD.mono hbU.size))).ZC (Nat.le_of_eq hz.symm);have tu':yw wD w3.heap.size gu cu au:=(tu.below hbD).ZC (by omega);exact⟨ga,ca,gu,cu,gd,cd,((g0.trans (g _ _ _)).trans (g _ _ _)).trans (g _ _ _),((hm.set11 _).set12 _).set13 _,ta'.sets (by omega) _ _ _,tu'.sets (by omega) _ _ _,(td.ZC (by omega)).sets (by omega) _ _ _⟩
def RTwinM (h:Hd)(qs:List Qn)(an au ad:List Rec)(w:World)(e:Ending)(w':World):Prop:=
 ∃q ga ca gu cu gd cd,e= .returned (yZ h q (.slice (some ⟨ga,0,none⟩) an.length ca) (.slice (some ⟨gu,0,none⟩) au.length cu) (.slice (some ⟨gd,0,none⟩) ad.length cd))∧Below w.heap.size w w'∧
  w'.ownsRow w.heap.size 78 3 q qs.length (xI qs)∧yw w' w.heap.size ga ca an∧yw w' w.heap.size gu cu au∧yw w' w.heap.size gd cd ad
end Go.Proofs.YtpcmilhjpmlbpaaGreatDoor
