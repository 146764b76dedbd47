import Derived.Test.YtpcmilhjpmlbpaaGreatDoorQTrQ
import Derived.Test.YtpcmilhjpmlbpaaGreatDoorQRefV
import Derived.Test.YtpcmilhjpmlbpaaGreatDoorQNameE
import Derived.Test.YtpcmilhjpmlbpaaGreatDoorQDataS
import Derived.Test.YtpcmilhjpmlbpaaGreatDoorQRefP
import Derived.Test.YtpcmilhjpmlbpaaGreatDoorQMsgC
import Derived.Test.YtpcmilhjpmlbpaaGreatDoorQDelG
import Derived.Test.YtpcmilhjpmlbpaaGreatDoorQTrA
import Derived.Deep.RegionWith
import Derived.Deep.DeepMust
namespace Go.Proofs.YtpcmilhjpmlbpaaGreatDoor
open Go.RowKit Go.Shelf nm od
def QE (l:List Qn):List Value:=l.flatMap qnC
theorem qnsC_len (l:List Qn):(QE l).length=l.length*3:=by
 induction l with
 | nil=>rfl
 | cons a t ih=>
   have e:QE (a :: t)=qnC a ++ QE t:=rfl
   rw[e,List.length_append,ih,List.length_cons]
   show 3+t.length*3=(t.length+1)*3
   omega
theorem qns_one (l:List Qn):∀u∈QE l,u.oneCell'=true:=fun u hu=>by
 unfold QE at hu
 obtain⟨r,_,hr⟩:=List.mem_flatMap.1 hu
 simp only[List.mem_cons,List.not_mem_nil,or_false]at hr
 rcases hr with rfl | rfl | rfl <;> rfl
theorem qnsC_at:∀(l:List Qn) (t:Nat) (ht:t<l.length*3),(QE l)[t]? =(qnC (l[t / 3]'(by omega)))[t % 3]?
 | [],t,ht=>absurd ht (by simp)
 | a :: r,t,ht=>by
   have e:QE (a :: r)= .string a.name :: .int .i64 a.typ :: .int .i64 a.cls :: QE r:=rfl
   rw[e]
   match t,ht with
   | 0,_=>rfl
   | 1,_=>rfl
   | 2,_=>rfl
   | t+3,ht=>
     have ih:=qnsC_at r t (by simp at ht;omega)
     simp only[List.getElem?_cons_succ]
     rw[ih]
     have h1:(t+3) / 3=t / 3+1:=by omega
     have h2:(t+3) % 3=t % 3:=by omega
     simp only[h1,h2,List.getElem_cons_succ]
theorem qns_cells {w:World}{b off n cap:Nat}{l:List Qn}(h:jL w (.slice (some ⟨b,off,none⟩) n cap) l):n=l.length∧∀j u,(QE l)[j]? =some u→w.cell? ⟨b,off+j,none⟩=some u:=by
 obtain⟨a',cap',hv,_,hr⟩:=h
 simp only[Value.slice.injEq]at hv
 refine⟨hv.2.1,fun j u hu=>?_⟩
 have hj:j<l.length*3:=by
  have:=(List.getElem?_eq_some_iff.1 hu).1
  rwa [qnsC_len]at this
 rw[qnsC_at l j hj]at hu
 obtain⟨b',off',ha,_,c0,c1,c2⟩:=hr (j / 3) (by omega)
 rw[← hv.1]at ha
 simp only[Option.some.injEq,Addr.mk.injEq,and_true]at ha
 obtain⟨rfl,rfl⟩:=ha
 have hd:j=j / 3*3+j % 3:=by omega
 have hm:j % 3<3:=Nat.mod_lt _ (by omega)
 rw[show off+j=off+j / 3*3+j % 3 by omega]
 have key:∀i,i<3→(qnC (l[j / 3]'(by omega)))[i]? =some u→w.cell? ⟨b,off+j / 3*3+i,none⟩=some u:=fun i hi h=>by
  match i,hi with
  | 0,_=>simp only[List.getElem?_cons_zero,Option.some.injEq]at h;rw[← h];exact c0
  | 1,_=>simp only[List.getElem?_cons_succ,List.getElem?_cons_zero,Option.some.injEq]at h;rw[← h];exact c1
  | 2,_=>simp only[List.getElem?_cons_succ,List.getElem?_cons_zero,Option.some.injEq]at h;rw[← h];exact c2
 exact key _ hm hu
theorem owns_qns {w:World}{base:Nat}{v:Value}{l:List Qn}(h:w.ownsRow base 78 3 v l.length (QE l)):jL w v l:=by
 obtain⟨a,cap,rfl,hc⟩:=qm h
 refine⟨a,cap,rfl,hc,fun k hk=>?_⟩
 obtain⟨g,cap',hv,_,_⟩:=h.form (by omega)
 simp only[Value.slice.injEq,true_and]at hv
 obtain⟨rfl,rfl⟩:=hv
 refine⟨g,0,rfl,(h.lt g rfl).2,?_⟩
 have e:∀i,i<3→w.cell? ⟨g,0+k*3+i,none⟩=(qnC l[k])[i]?:=fun i hi=>by
  rw[h.cellAt _ (by omega),qnsC_at l _ (by omega)]
  have h1:(0+k*3+i) / 3=k:=by omega
  have h2:(0+k*3+i) % 3=i:=by omega
  simp only[h1,h2]
 exact⟨e 0 (by omega),e 1 (by omega),e 2 (by omega)⟩
theorem info_qn:(Tryz.prog.info? 78).map (fun i=>(i.zero,i.size,i.bytes))=some (some (.agg #[.string ⟨#[]⟩,.int .i64 0,.int .i64 0]),3,32):=by kernel_rfl
def xP (w:World)(base g cap:Nat)(l:List Rec):Prop:=w.ownsRow base 80 5 (.slice (some ⟨g,0,none⟩) (l.length+2) cap) (l.length+2) (qx (l ++ [spareR,spareR]))∧l.length+2≤cap
theorem xP.below {w w':World}{base g cap:Nat}{l:List Rec}(h:xP w base g cap l)(hB:Below w.heap.size w w'):xP w' base g cap l:=⟨ownsRow_below h.1 hB,h.2⟩
theorem xP.base_ {w:World}{base base' g cap:Nat}{l:List Rec}(h:xP w base g cap l)(hb:base'≤base):xP w base' g cap l:=⟨qK h.1 hb,h.2⟩
section
variable {w:World}{b:Nat}{h:Hd}{q a u d:Value}
theorem qA.set0 (hb:qA w b h q a u d)(v:Int):qA (w.setCell ⟨b,0,none⟩ (.int .i64 v)) b { h with id:=v} q a u d:=(qy hb 0 (.int .i64 v)).trans rfl
theorem qA.set1 (hb:qA w b h q a u d)(v:Bool):qA (w.setCell ⟨b,1,none⟩ (.bool v)) b { h with K9:=v} q a u d:=(qy hb 1 (.bool v)).trans rfl
theorem qA.set2 (hb:qA w b h q a u d)(v:Int):qA (w.setCell ⟨b,2,none⟩ (.int .i64 v)) b { h with op:=v} q a u d:=(qy hb 2 (.int .i64 v)).trans rfl
theorem qA.set3 (hb:qA w b h q a u d)(v:Bool):qA (w.setCell ⟨b,3,none⟩ (.bool v)) b { h with aa:=v} q a u d:=(qy hb 3 (.bool v)).trans rfl
theorem qA.set4 (hb:qA w b h q a u d)(v:Bool):qA (w.setCell ⟨b,4,none⟩ (.bool v)) b { h with tc:=v} q a u d:=(qy hb 4 (.bool v)).trans rfl
theorem qA.set5 (hb:qA w b h q a u d)(v:Bool):qA (w.setCell ⟨b,5,none⟩ (.bool v)) b { h with rd:=v} q a u d:=(qy hb 5 (.bool v)).trans rfl
theorem qA.set6 (hb:qA w b h q a u d)(v:Bool):qA (w.setCell ⟨b,6,none⟩ (.bool v)) b { h with ra:=v} q a u d:=(qy hb 6 (.bool v)).trans rfl
theorem qA.set7 (hb:qA w b h q a u d)(v:Bool):qA (w.setCell ⟨b,7,none⟩ (.bool v)) b { h with ad:=v} q a u d:=(qy hb 7 (.bool v)).trans rfl
theorem qA.set8 (hb:qA w b h q a u d)(v:Bool):qA (w.setCell ⟨b,8,none⟩ (.bool v)) b { h with cd:=v} q a u d:=(qy hb 8 (.bool v)).trans rfl
theorem qA.set9 (hb:qA w b h q a u d)(v:Int):qA (w.setCell ⟨b,9,none⟩ (.int .i64 v)) b { h with ug:=v} q a u d:=(qy hb 9 (.int .i64 v)).trans rfl
theorem qA.set10 (hb:qA w b h q a u d)(v:Value):qA (w.setCell ⟨b,10,none⟩ v) b h v a u d:=(qy hb 10 v).trans rfl
theorem qA.set11 (hb:qA w b h q a u d)(v:Value):qA (w.setCell ⟨b,11,none⟩ v) b h q v u d:=(qy hb 11 v).trans rfl
theorem qA.set12 (hb:qA w b h q a u d)(v:Value):qA (w.setCell ⟨b,12,none⟩ v) b h q a v d:=(qy hb 12 v).trans rfl
theorem qA.set13 (hb:qA w b h q a u d)(v:Value):qA (w.setCell ⟨b,13,none⟩ v) b h q a u v:=(qy hb 13 v).trans rfl
end
theorem jR {w:World}{b:Nat}{h0:Hd}{q0 a0 u0 d0:Value}(hb:qA w b h0 q0 a0 u0 d0)(h:Hd)(q a u d:Value):
 qA ((((((((((((((w.setCell ⟨b,0,none⟩ (.int .i64 h.id)).setCell ⟨b,1,none⟩ (.bool h.K9)).setCell ⟨b,2,none⟩ (.int .i64 h.op)).setCell ⟨b,3,none⟩ (.bool h.aa)).setCell ⟨b,4,none⟩ (.bool h.tc)).setCell ⟨b,5,none⟩ (.bool h.rd)).setCell ⟨b,6,none⟩ (.bool h.ra)).setCell ⟨b,7,none⟩ (.bool h.ad)).setCell ⟨b,8,none⟩ (.bool h.cd)).setCell ⟨b,9,none⟩ (.int .i64 h.ug)).setCell ⟨b,10,none⟩ q).setCell ⟨b,11,none⟩ a).setCell ⟨b,12,none⟩ u).setCell ⟨b,13,none⟩ d) b h q a u d∧
 w.grownBy ((((((((((((((w.setCell ⟨b,0,none⟩ (.int .i64 h.id)).setCell ⟨b,1,none⟩ (.bool h.K9)).setCell ⟨b,2,none⟩ (.int .i64 h.op)).setCell ⟨b,3,none⟩ (.bool h.aa)).setCell ⟨b,4,none⟩ (.bool h.tc)).setCell ⟨b,5,none⟩ (.bool h.rd)).setCell ⟨b,6,none⟩ (.bool h.ra)).setCell ⟨b,7,none⟩ (.bool h.ad)).setCell ⟨b,8,none⟩ (.bool h.cd)).setCell ⟨b,9,none⟩ (.int .i64 h.ug)).setCell ⟨b,10,none⟩ q).setCell ⟨b,11,none⟩ a).setCell ⟨b,12,none⟩ u).setCell ⟨b,13,none⟩ d) (some b):=by
 have e:=(((((((((((((hb.set0 h.id).set1 h.K9).set2 h.op).set3 h.aa).set4 h.tc).set5 h.rd).set6 h.ra).set7 h.ad).set8 h.cd).set9 h.ug).set10 q).set11 a).set12 u).set13 d
 refine⟨e,?_⟩
 have g:∀(W:World) (i:Nat) (v:Value),W.grownBy (W.setCell ⟨b,i,none⟩ v) (some b):=fun W i v=>grownBy_setCell W ⟨b,i,none⟩ v
 exact(((((((((((((g _ _ _).trans (g _ _ _)).trans (g _ _ _)).trans (g _ _ _)).trans (g _ _ _)).trans (g _ _ _)).trans (g _ _ _)).trans (g _ _ _)).trans (g _ _ _)).trans (g _ _ _)).trans (g _ _ _)).trans (g _ _ _)).trans (g _ _ _)).trans (g _ _ _)
theorem msg_size:(Tryz.prog.info? 33).map (·.size)=some 14:=by kernel_rfl
theorem msg_ret {fn:Func}{p:Tmp}(hf:fn.results= #[.cell p 33]){R:Ending→World→Prop}{a:Act}{w:World}{g:Nat}{h:Hd}{q x u d:Value}(hp:a.tmps.getD p undef= .pointer (some ⟨g,0,none⟩))
 (hd:a.defers= []) (hg:qA w g h q x u d) (hR:R (.returned (uj h q x u d)) w):bodyPost Tryz.prog fn R .ret a w:=
 bodyPost_ret_by (results_cell_row hf _ w g _ _ _ _ hp hg Tryz.underlying33 rfl msg_size) hd hR
abbrev hd0:Hd:=⟨0,false,0,false,false,false,false,false,false,0⟩
def SlotV (X:World)(mb:Nat)(v:Value)(l:List Rec):Prop:=qz X v l∧zZ v∧(l= []∨v.ownBlock≠some mb)
theorem SlotV.below {X Y:World}{mb:Nat}{v:Value}{l:List Rec}(h:SlotV X mb v l)(hB:Below X.heap.size X Y):SlotV Y mb v l:=⟨h.1.below hB,h.2⟩
theorem recs_keepOne {X Y:World}{v:Value}{l:List Rec}(h:qz X v l)(hs:X.heap.size≤Y.heap.size)(hk:l≠[]→∀b,v.ownBlock=some b→Y.heap[b]? =X.heap[b]?):qz Y v l:=by
 obtain⟨a,cap,rfl,hc,hr⟩:=h
 refine⟨a,cap,rfl,hc,fun k hk2=>?_⟩
 obtain⟨b,off,rfl,hbl,hra⟩:=hr k hk2
 exact⟨b,off,rfl,Nat.lt_of_lt_of_le hbl hs,hra.keep (hk (List.length_pos_iff.1 (by omega)) b rfl)⟩
theorem SlotV.set {X:World}{mb i:Nat}{v x:Value}{l:List Rec}(h:SlotV X mb v l):SlotV (X.setCell ⟨mb,i,none⟩ x) mb v l:=
 ⟨recs_keepOne h.1 (by simp[World.setCell]) fun hl b hb=>Below.heap_setCell _ _ _ _ (fun e=>h.2.2.elim hl (fun h2=>h2 (by rw[hb,e]))),h.2⟩
theorem xP.keepOne {w w':World}{base g cap:Nat}{l:List Rec}(h:xP w base g cap l)(hk:w'.heap[g]? =w.heap[g]?):xP w' base g cap l:=
 ⟨qi h.1 fun b hb=>by simp only[Value.ownBlock,Option.some.injEq]at hb;subst hb;exact hk,h.2⟩
theorem xP.sets {w:World}{base g cap mb:Nat}{l:List Rec}(h:xP w base g cap l)(hne:g≠mb)(v1 v2 v3:Value):xP (((w.setCell ⟨mb,11,none⟩ v1).setCell ⟨mb,12,none⟩ v2).setCell ⟨mb,13,none⟩ v3) base g cap l:=
 ((h.keepOne (Below.heap_setCell _ _ _ _ hne)).keepOne (Below.heap_setCell _ _ _ _ hne)).keepOne (Below.heap_setCell _ _ _ _ hne)
end Go.Proofs.YtpcmilhjpmlbpaaGreatDoor
namespace Go.Proofs.YtpcmilhjpmlbpaaGreatDoor
open nm
structure Rul where
 name:ByteArray
 below:Bool
 kind:Int
 typ:Int
 ttl:Int
 data:ByteArray
 deriving DecidableEq,Inhabited
namespace pf
def ze (r:Rul):Bool:=qj r.name && decide (0≤r.kind) && decide (r.kind≤4) && (!decide (r.kind=4) || decide (dt.yT r.typ r.data=0) && decide (0≤r.ttl) && decide (r.ttl≤2147483647))
end pf
end Go.Proofs.YtpcmilhjpmlbpaaGreatDoor
namespace Go.Proofs.YtpcmilhjpmlbpaaGreatDoor
open Go.RowKit Go.Shelf nm od
def RulAt (w:World)(b off:Nat)(r:Rul):Prop:=
 w.cell? ⟨b,off,none⟩=some (.string r.name)∧w.cell? ⟨b,off+1,none⟩=some (.bool r.below)∧w.cell? ⟨b,off+2,none⟩=some (.int .i64 r.kind)∧
 w.cell? ⟨b,off+3,none⟩=some (.int .i64 r.typ)∧w.cell? ⟨b,off+4,none⟩=some (.int .i64 r.ttl)∧w.cell? ⟨b,off+5,none⟩=some (.string r.data)
def RulsAt (w:World)(v:Value)(l:List Rul):Prop:=
 ∃a cap,v= .slice a l.length cap∧l.length≤cap∧∀k (hk:k<l.length),∃b off,a=some ⟨b,off,none⟩∧b<w.heap.size∧RulAt w b (off+k*6) l[k]
theorem RulAt.keep {w w':World}{b off:Nat}{r:Rul}(h:RulAt w b off r)(hk:w'.heap[b]? =w.heap[b]?):RulAt w' b off r:=by
 have e:∀i,w'.cell? ⟨b,i,none⟩=w.cell? ⟨b,i,none⟩:=fun i=>World.cell?_of_block (w:=w) (a:=⟨b,i,none⟩) hk
 exact⟨(e _).trans h.1,(e _).trans h.2.1,(e _).trans h.2.2.1,(e _).trans h.2.2.2.1,(e _).trans h.2.2.2.2.1,(e _).trans h.2.2.2.2.2⟩
theorem RulsAt.below {w w':World}{v:Value}{l:List Rul}(h:RulsAt w v l)(hb:Below w.heap.size w w'):RulsAt w' v l:=by
 obtain⟨a,cap,hv,hc,hr⟩:=h
 refine⟨a,cap,hv,hc,fun k hk=>?_⟩
 obtain⟨b,off,ha,hbl,hra⟩:=hr k hk
 exact⟨b,off,ha,Nat.lt_of_lt_of_le hbl hb.size,hra.keep (hb.block b hbl)⟩
def RulB (w:World)(b:Nat)(r:Rul):Prop:=
 w.cell? ⟨b,0,none⟩=some (.string r.name)∧w.cell? ⟨b,1,none⟩=some (.bool r.below)∧w.cell? ⟨b,2,none⟩=some (.int .i64 r.kind)∧
 w.cell? ⟨b,3,none⟩=some (.int .i64 r.typ)∧w.cell? ⟨b,4,none⟩=some (.int .i64 r.ttl)∧w.cell? ⟨b,5,none⟩=some (.string r.data)
theorem RulB.below {w w':World}{b:Nat}{r:Rul}(h:RulB w b r)(hl:b<w.heap.size)(hb:Below w.heap.size w w'):RulB w' b r:=by
 have e:∀i,w'.cell? ⟨b,i,none⟩=w.cell? ⟨b,i,none⟩:=fun i=>World.cell?_of_block (w:=w) (a:=⟨b,i,none⟩) (hb.block b hl)
 exact⟨(e _).trans h.1,(e _).trans h.2.1,(e _).trans h.2.2.1,(e _).trans h.2.2.2.1,(e _).trans h.2.2.2.2.1,(e _).trans h.2.2.2.2.2⟩
end Go.Proofs.YtpcmilhjpmlbpaaGreatDoor
namespace Go.Proofs.YtpcmilhjpmlbpaaGreatDoor
open Go.RowKit Go.Shelf nm od
structure Msg where
 h:Hd
 qs:List Qn
 an:List Rec
 au:List Rec
 ad:List Rec
namespace pf
def sayB (q:Qn)(r:Rul):Bool:=decide (r.kind=4) && (decide (q.typ=r.typ) || decide (q.typ=255) || decide (r.typ=5))
@[reducible] def sayR (q:Qn) (r:Rul):Rec:=⟨q.name,r.typ,1,r.ttl,r.data⟩
def goes (x:Rec):Bool:=x.typ != 41
def told (q:Qn)(r:Rul)(A:Msg):Msg:=⟨{ A.h with aa:=false,ug:=if r.kind=2 then 3 else 0},A.qs,if sayB q r=true then [sayR q r] else [],[],df.keep goes A.ad⟩
end pf
theorem cloneQns_any (l:List Qn)(hl:l.length*32≤140737488355328)(v:Value)(hf:zZ v)(w:World)(hrv:jL w v l):
 Calls Tryz.prog 37 #[v] w fun e w'=>∃v',e= .returned v'∧Below w.heap.size w w'∧w'.ownsRow w.heap.size 78 3 v' l.length (QE l):=by
 rcases hf with rfl | ⟨b,off,n,cap,rfl⟩
 ·obtain⟨a,cap,hv,hc,_⟩:=hrv
  simp only[Value.slice.injEq]at hv
  have hl0:l= []:=List.eq_nil_of_length_eq_zero hv.2.1.symm
  subst hl0
  refine(AnyE.slices_Clone_nil Tryz.cloneQ 0 0 w).mono ?_
  rintro e w' ⟨rfl,rfl⟩
  exact⟨_,rfl,Below.refl _ _,World.ownsRow_nil w' _ _ 3⟩
 ·obtain⟨rfl,hcl⟩:=qns_cells hrv
  obtain⟨i0,hi0,hz0,hz1,hz2⟩:=info_parts info_qn
  refine(AnyE.slices_Clone Tryz.cloneQ i0 _ 3 32 hi0 hz0 hz1 hz2 rfl (by omega) (fun w=>by kernel_rfl) b off l.length cap (QE l) w (qnsC_len l) (by unfold maxLen;omega) hl hcl (qns_one l)).mono ?_
  rintro e w' ⟨v',rfl,h1,_,h2⟩
  exact⟨v',rfl,h2,h1⟩
theorem Qq {fn:Func}{p t:Tmp}(hf:fn.results= #[.cell p 33,.tmp t]){R:Ending→World→Prop}{a:Act}{w:World}{g:Nat}{h:Hd}{q x u d y:Value}(hp:a.tmps.getD p undef= .pointer (some ⟨g,0,none⟩))
 (ht:a.tmps.getD t undef=y) (hd:a.defers= []) (hg:qA w g h q x u d) (hR:R (.returned (.tuple #[uj h q x u d,y])) w):bodyPost Tryz.prog fn R .ret a w:=by
 refine bodyPost_ret_by ?_ hd hR
 have hp':a.tmps[p]?.getD undef= .pointer (some ⟨g,0,none⟩):=by simpa using hp
 have ht':a.tmps[t]?.getD undef=y:=by simpa using ht
 simp[results,hf,hp',ht',asAddr,run_loadVar_row w g _ 33 _ _ _ hg Tryz.underlying33 rfl msg_size]
def va (X:World)(b i:Nat):Value:=(X.cell? ⟨b,i,none⟩).getD undef
theorem va_of {X:World}{b i:Nat}{v:Value}(h:X.cell? ⟨b,i,none⟩=some v):va X b i=v:=by unfold va;rw[h];rfl
@[reducible] def InvO (w:World) (mb ob:Nat) (h:Hd) (q a u d:Value) (X:World):Prop:=
 w.grownBy X (some ob)∧qA X ob h (va X ob 10) (va X ob 11) (va X ob 12) (va X ob 13)∧(X.cell? ⟨mb,10,none⟩=some q∧X.cell? ⟨mb,11,none⟩=some a∧X.cell? ⟨mb,12,none⟩=some u∧X.cell? ⟨mb,13,none⟩=some d)∧
 (X.cell? ⟨ob,10,none⟩=some (va X ob 10)∧X.cell? ⟨ob,11,none⟩=some (va X ob 11)∧X.cell? ⟨ob,12,none⟩=some (va X ob 12)∧X.cell? ⟨ob,13,none⟩=some (va X ob 13))∧
 (X.frozen? ⟨ob,10,none⟩=false∧X.frozen? ⟨ob,11,none⟩=false∧X.frozen? ⟨ob,12,none⟩=false∧X.frozen? ⟨ob,13,none⟩=false)
theorem invO_of {w X:World}{mb ob:Nat}{hm h:Hd}{q a u d q' a' u' d':Value}(hg:w.grownBy X (some ob))(hm0:qA w mb hm q a u d)(hne:mb≠ob)(ho:qA X ob h q' a' u' d'):InvO w mb ob h q a u d X:=by
 obtain⟨_,_,_,_,_,_,_,_,_,_,x10,x11,x12,x13⟩:=ho.facts
 have hmX:qA X mb hm q a u d:=(hg.block mb hm0.lt (fun e=>hne (by simpa using e))).trans hm0
 obtain⟨_,_,_,_,_,_,_,_,_,_,y10,y11,y12,y13⟩:=hmX.facts
 unfold InvO
 rw[va_of x10,va_of x11,va_of x12,va_of x13]
 exact⟨hg,ho,⟨y10,y11,y12,y13⟩,⟨x10,x11,x12,x13⟩,ho.free 10,ho.free 11,ho.free 12,ho.free 13⟩
section
variable {w X Y:World}{mb ob:Nat}{hm h:Hd}{q a u d:Value}
theorem InvO.below (hm0:qA w mb hm q a u d)(hne:mb≠ob)(hi:InvO w mb ob h q a u d X)(hB:Below X.heap.size X Y):InvO w mb ob h q a u d Y:=
 invO_of (hi.1.trans ⟨hB.os,hB.tape,hB.output,hB.size,fun k hk _=>hB.block k hk⟩) hm0 hne (hi.2.1.below hB)
end
structure FR (base:Nat)(w:World)(ob rb:Nat)(q a u d:Value)(qs:List Qn)(an au ad:List Rec):Prop where
 rq:w.ownsRow base 78 3 q qs.length (QE qs)
 lo:Loose base w q a u d qs.length an au ad
 oq:q.ownBlock≠some ob∧q.ownBlock≠some rb
 oa:a.ownBlock≠some ob∧a.ownBlock≠some rb
 ou:u.ownBlock≠some ob∧u.ownBlock≠some rb
 od_:d.ownBlock≠some ob∧d.ownBlock≠some rb
section
variable {base ob rb:Nat}{w w':World}{q a u d:Value}{qs:List Qn}{an au ad:List Rec}
theorem FR.keep (h:FR base w ob rb q a u d qs an au ad)(hs:w.heap.size≤w'.heap.size)(hk:∀b,b<w.heap.size→b≠ob→b≠rb→w'.heap[b]? =w.heap[b]?):FR base w' ob rb q a u d qs an au ad:=by
 have kr:∀{v:Value} {e:TypeId} {sz n:Nat} {xs:List Value},w.ownsRow base e sz v n xs→v.ownBlock≠some ob∧v.ownBlock≠some rb→w'.ownsRow base e sz v n xs:=fun hr ho=>
  qi hr fun b hb=>hk b (hr.lt b hb).2 (fun e=>ho.1 (by rw[hb,e])) (fun e=>ho.2 (by rw[hb,e]))
 exact⟨kr h.rq h.oq,⟨⟨_,kr h.rq h.oq⟩,kr h.lo.ra h.oa,kr h.lo.ru h.ou,kr h.lo.rd h.od_,h.lo.qa,h.lo.qu,h.lo.qd,h.lo.au_,h.lo.ad_,h.lo.ud,Nat.le_trans h.lo.base_ hs⟩,h.oq,h.oa,h.ou,h.od_⟩
theorem FR.below (h:FR base w ob rb q a u d qs an au ad)(hB:Below w.heap.size w w'):FR base w' ob rb q a u d qs an au ad:=h.keep hB.size fun b hb _ _=>hB.block b hb
theorem FR.set (h:FR base w ob rb q a u d qs an au ad)(i:Nat)(v:Value):FR base (w.setCell ⟨ob,i,none⟩ v) ob rb q a u d qs an au ad:=h.keep (by simp[World.setCell]) fun b _ hne _=>Below.heap_setCell _ _ _ _ hne
end
end Go.Proofs.YtpcmilhjpmlbpaaGreatDoor
namespace Go.Proofs.YtpcmilhjpmlbpaaGreatDoor
open Go.RowKit Go.Shelf nm od
structure MsgIn (w:World)(M:Msg)(q a u d:Value):Prop where
 rq:jL w q M.qs
 ra:qz w a M.an
 ru:qz w u M.au
 rd:qz w d M.ad
theorem MsgIn.below {w w':World}{M:Msg}{q a u d:Value}(h:MsgIn w M q a u d)(hB:Below w.heap.size w w'):MsgIn w' M q a u d:=⟨h.rq.below hB,h.ra.below hB,h.ru.below hB,h.rd.below hB⟩
theorem Loose.below {w w':World}{base nq:Nat}{q a u d:Value}{an au ad:List Rec}(h:Loose base w q a u d nq an au ad)(hB:Below w.heap.size w w'):Loose base w' q a u d nq an au ad:=
 ⟨by obtain⟨xs,hx⟩:=h.qs;exact⟨xs,ownsRow_below hx hB⟩,ownsRow_below h.ra hB,ownsRow_below h.ru hB,ownsRow_below h.rd hB,h.qa,h.qu,h.qd,h.au_,h.ad_,h.ud,Nat.le_trans h.base_ hB.size⟩
end Go.Proofs.YtpcmilhjpmlbpaaGreatDoor
namespace Go.Proofs.YtpcmilhjpmlbpaaGreatDoor
open Go.RowKit Go.Shelf nm od
def vG (w:World)(v:Value)(l:List Msg):Prop:=∃ao cap,v= .slice ao l.length cap∧l.length≤cap∧
 ∀k (hk:k<l.length),∃b off q a u d,ao=some ⟨b,off,none⟩∧b<w.heap.size∧(∀j x,(kK l[k].h q a u d)[j]? =some x→w.cell? ⟨b,off+k*14+j,none⟩=some x)∧MsgIn w l[k] q a u d∧
  (l[k].qs.length≤1000000000000∧l[k].an.length≤1000000000000∧l[k].au.length≤1000000000000∧l[k].ad.length≤1000000000000)
theorem vG.below {w w':World}{v:Value}{l:List Msg}(h:vG w v l)(hB:Below w.heap.size w w'):vG w' v l:=by
 obtain⟨ao,cap,h1,h2,h3⟩:=h
 refine⟨ao,cap,h1,h2,fun k hk=>?_⟩
 obtain⟨b,off,q,a,u,d,e,hb,hc,hi,hf⟩:=h3 k hk
 exact⟨b,off,q,a,u,d,e,Nat.lt_of_lt_of_le hb hB.size,fun j x hx=>(hB.cell (p:=⟨b,_,none⟩) hb).trans (hc j x hx),hi.below hB,hf⟩
theorem ZO {w:World}{ao:Option Addr}{n cap:Nat}{l:List Msg}(h:vG w (.slice ao n cap) l){k:Nat}(hk:k<l.length):
 ∃b off q a u d,ao=some ⟨b,off,none⟩∧(w.cell? ⟨b,off+k*14,none⟩=some (.int .i64 l[k].h.id)∧w.cell? ⟨b,off+k*14+1,none⟩=some (.bool l[k].h.K9)∧w.cell? ⟨b,off+k*14+2,none⟩=some (.int .i64 l[k].h.op)∧w.cell? ⟨b,off+k*14+3,none⟩=some (.bool l[k].h.aa)∧w.cell? ⟨b,off+k*14+4,none⟩=some (.bool l[k].h.tc)∧w.cell? ⟨b,off+k*14+5,none⟩=some (.bool l[k].h.rd)∧w.cell? ⟨b,off+k*14+6,none⟩=some (.bool l[k].h.ra)∧w.cell? ⟨b,off+k*14+7,none⟩=some (.bool l[k].h.ad)∧w.cell? ⟨b,off+k*14+8,none⟩=some (.bool l[k].h.cd)∧w.cell? ⟨b,off+k*14+9,none⟩=some (.int .i64 l[k].h.ug)∧w.cell? ⟨b,off+k*14+10,none⟩=some (q)∧w.cell? ⟨b,off+k*14+11,none⟩=some (a)∧w.cell? ⟨b,off+k*14+12,none⟩=some (u)∧w.cell? ⟨b,off+k*14+13,none⟩=some (d))∧MsgIn w l[k] q a u d∧
  (l[k].qs.length≤1000000000000∧l[k].an.length≤1000000000000∧l[k].au.length≤1000000000000∧l[k].ad.length≤1000000000000):=by
 obtain⟨ao',cap',hv,_,h3⟩:=h
 simp only[Value.slice.injEq]at hv
 obtain⟨rfl,-,-⟩:=hv
 obtain⟨b,off,q,a,u,d,e,_,hc,hi,hf⟩:=h3 k hk
 exact⟨b,off,q,a,u,d,e,⟨hc 0 _ rfl,hc 1 _ rfl,hc 2 _ rfl,hc 3 _ rfl,hc 4 _ rfl,hc 5 _ rfl,hc 6 _ rfl,hc 7 _ rfl,hc 8 _ rfl,hc 9 _ rfl,hc 10 _ rfl,hc 11 _ rfl,hc 12 _ rfl,hc 13 _ rfl⟩,hi,hf⟩
end Go.Proofs.YtpcmilhjpmlbpaaGreatDoor
