import Derived.Test.YtpcmilhjpmlbpaaGreatDoorQMsgC
import Derived.Test.YtpcmilhjpmlbpaaGreatDoorQTrA
import Derived.Deep.RegionWith
import Derived.Deep.DeepMust
set_option maxRecDepth 100000
set_option maxHeartbeats 4000000
namespace Go.Proofs.YtpcmilhjpmlbpaaGreatDoor
open Go.RowKit Go.Shelf nm od
def xg (l:List Qn):List Value:=l.flatMap qnC
theorem qnsC_len (l:List Qn):(xg l).length=l.length*3:=by
 induction l with
 | nil=>rfl
 | cons a t ih=>
   have e:xg (a :: t)=qnC a ++ xg t:=rfl;rw[e,gK,ih,Ha];show 3+t.length*3=(t.length+1)*3;omega
theorem qns_one (l:List Qn):∀u∈xg l,u.oneCell'=true:=λu hu=>by
 unfold xg at hu;obtain⟨r,_,hr⟩:=List.mem_flatMap.1 hu;simp only[List.mem_cons,List.not_mem_nil,or_false]at hr;rcases hr with rfl | rfl | rfl <;> rfl
theorem qnsC_at:∀(l:List Qn) (t:Nat) (ht:t<l.length*3),(xg l)[t]? =(qnC (l[t / 3]'(by omega)))[t % 3]?
 | [],t,ht=>absurd ht (by simp)
 | a :: r,t,ht=>by
   have e:xg (a :: r)= .string a.name :: .int .i64 a.typ :: .int .i64 a.cls :: xg r:=rfl;rw[e]
   match t,ht with
   | 0,_=>rfl
   | 1,_=>rfl
   | 2,_=>rfl
   | t+3,ht=>
     have ih:=qnsC_at r t (by simp at ht;omega);simp only[List.getElem?_cons_succ];rw[ih];have h1:(t+3) / 3=t / 3+1:=by omega
     have h2:(t+3) % 3=t % 3:=by omega
     simp only[h1,h2,List.getElem_cons_succ]
theorem qns_cells {w:World}{b off n cap:Nat}{l:List Qn}(h:yw w (.slice (some ⟨b,off,none⟩) n cap) l):n=l.length/\∀j u,(xg l)[j]? =some u->w.cell? ⟨b,off+j,none⟩=some u:=by
 obtain⟨a',cap',hv,_,hr⟩:=h;simp only[gL]at hv;refine⟨hv.2.1,λj u hu=>?_⟩;have hj:j<l.length*3:=by
  have:=(List.getElem?_eq_some_iff.1 hu).1
  rwa [qnsC_len]at this
 rw[qnsC_at l j hj]at hu;obtain⟨b',off',ha,_,c0,c1,c2⟩:=hr (j / 3) (by omega);rw[<- hv.1]at ha;simp only[gM,Addr.mk.injEq,and_true]at ha;obtain⟨rfl,rfl⟩:=ha;have hd:j=j / 3*3+j % 3:=by omega
 have hm:j % 3<3:=Nat.mod_lt _ (by omega);rw[show off+j=off+j / 3*3+j % 3 by omega]
 have key:∀i,i<3->(qnC (l[j / 3]'(by omega)))[i]? =some u->w.cell? ⟨b,off+j / 3*3+i,none⟩=some u:=λi hi h=>by
  match i,hi with
  | 0,_=>simp only[List.getElem?_cons_zero,gM]at h;rw[<- h];exact c0
  | 1,_=>simp only[List.getElem?_cons_succ,List.getElem?_cons_zero,gM]at h;rw[<- h];exact c1
  | 2,_=>simp only[List.getElem?_cons_succ,List.getElem?_cons_zero,gM]at h;rw[<- h];exact c2
 exact key _ hm hu
theorem UF {w:World}{base:Nat}{v:Value}{l:List Qn}(h:w.ownsRow base 78 3 v l.length (xg l)):yw w v l:=by
 obtain⟨a,cap,rfl,hc⟩:=qj h;refine⟨a,cap,rfl,hc,λk hk=>?_⟩;obtain⟨g,cap',hv,_,_⟩:=h.form (by omega);simp only[gL,true_and]at hv;obtain⟨rfl,rfl⟩:=hv;refine⟨g,0,rfl,(h.lt g rfl).2,?_⟩
 have e:∀i,i<3->w.cell? ⟨g,0+k*3+i,none⟩=(qnC l[k])[i]?:=λi hi=>by
  rw[h.cellAt _ (by omega),qnsC_at l _ (by omega)];have h1:(0+k*3+i) / 3=k:=by omega
  have h2:(0+k*3+i) % 3=i:=by omega
  simp only[h1,h2]
 exact⟨e 0 (by omega),e 1 (by omega),e 2 (by omega)⟩
theorem info_qn:(Tryz.prog.info? 78).map (λi=>(i.zero,i.size,i.bytes))=some (some (.agg #[.string ⟨#[]⟩,.int .i64 0,.int .i64 0]),3,32):=by kernel_rfl
def zZ (w:World)(base g cap:Nat)(l:List Rec):Prop:=w.ownsRow base 80 5 (.slice (some ⟨g,0,none⟩) (l.length+2) cap) (l.length+2) (qw (l ++ [zH,zH]))/\l.length+2<=cap
theorem zZ.below {w w':World}{base g cap:Nat}{l:List Rec}(h:zZ w base g cap l)(hB:Below w.heap.size w w'):zZ w' base g cap l:=⟨ownsRow_below h.1 hB,h.2⟩
theorem zZ.QK {w:World}{base base' g cap:Nat}{l:List Rec}(h:zZ w base g cap l)(hb:base'<=base):zZ w base' g cap l:=⟨qK h.1 hb,h.2⟩
theorem zZ.lt {w:World}{base g cap:Nat}{l:List Rec}(h:zZ w base g cap l):base<=g/\g<w.heap.size:=h.1.lt g rfl
theorem zZ.recs {w:World}{base g cap:Nat}{l:List Rec}(h:zZ w base g cap l):ql w (.slice (some ⟨g,0,none⟩) l.length cap) l:=by
 have hfull:ql w (.slice (some ⟨g,0,none⟩) (l.length+2) cap) (l ++ [zH,zH]):=qF (base:=base) (by rw[gK];exact h.1);have:=vM (k:=l.length) hfull (by rw[gK];omega);rw[List.take_left]at this;exact this
section
variable {w:World}{b:Nat}{h:Hd}{q a u d:Value}
theorem qi.set0 (hb:qi w b h q a u d)(v:Int):qi (w.setCell ⟨b,0,none⟩ (.int .i64 v)) b { h with id:=v} q a u d:=(qC hb 0 (.int .i64 v)).trans rfl
theorem qi.set1 (hb:qi w b h q a u d)(v:Bool):qi (w.setCell ⟨b,1,none⟩ (.bool v)) b { h with KW:=v} q a u d:=(qC hb 1 (.bool v)).trans rfl
theorem qi.set2 (hb:qi w b h q a u d)(v:Int):qi (w.setCell ⟨b,2,none⟩ (.int .i64 v)) b { h with op:=v} q a u d:=(qC hb 2 (.int .i64 v)).trans rfl
theorem qi.set3 (hb:qi w b h q a u d)(v:Bool):qi (w.setCell ⟨b,3,none⟩ (.bool v)) b { h with aa:=v} q a u d:=(qC hb 3 (.bool v)).trans rfl
theorem qi.set4 (hb:qi w b h q a u d)(v:Bool):qi (w.setCell ⟨b,4,none⟩ (.bool v)) b { h with tc:=v} q a u d:=(qC hb 4 (.bool v)).trans rfl
theorem qi.set5 (hb:qi w b h q a u d)(v:Bool):qi (w.setCell ⟨b,5,none⟩ (.bool v)) b { h with rd:=v} q a u d:=(qC hb 5 (.bool v)).trans rfl
theorem qi.set6 (hb:qi w b h q a u d)(v:Bool):qi (w.setCell ⟨b,6,none⟩ (.bool v)) b { h with ra:=v} q a u d:=(qC hb 6 (.bool v)).trans rfl
theorem qi.set7 (hb:qi w b h q a u d)(v:Bool):qi (w.setCell ⟨b,7,none⟩ (.bool v)) b { h with ad:=v} q a u d:=(qC hb 7 (.bool v)).trans rfl
theorem qi.set8 (hb:qi w b h q a u d)(v:Bool):qi (w.setCell ⟨b,8,none⟩ (.bool v)) b { h with cd:=v} q a u d:=(qC hb 8 (.bool v)).trans rfl
theorem qi.set9 (hb:qi w b h q a u d)(v:Int):qi (w.setCell ⟨b,9,none⟩ (.int .i64 v)) b { h with yL:=v} q a u d:=(qC hb 9 (.int .i64 v)).trans rfl
theorem qi.set10 (hb:qi w b h q a u d)(v:Value):qi (w.setCell ⟨b,10,none⟩ v) b h v a u d:=(qC hb 10 v).trans rfl
theorem qi.set11 (hb:qi w b h q a u d)(v:Value):qi (w.setCell ⟨b,11,none⟩ v) b h q v u d:=(qC hb 11 v).trans rfl
theorem qi.set12 (hb:qi w b h q a u d)(v:Value):qi (w.setCell ⟨b,12,none⟩ v) b h q a v d:=(qC hb 12 v).trans rfl
theorem qi.set13 (hb:qi w b h q a u d)(v:Value):qi (w.setCell ⟨b,13,none⟩ v) b h q a u v:=(qC hb 13 v).trans rfl
end
theorem yg {w:World}{b:Nat}{h0:Hd}{q0 a0 u0 d0:Value}(hb:qi w b h0 q0 a0 u0 d0)(h:Hd)(q a u d:Value):
 qi ((((((((((((((w.setCell ⟨b,0,none⟩ (.int .i64 h.id)).setCell ⟨b,1,none⟩ (.bool h.KW)).setCell ⟨b,2,none⟩ (.int .i64 h.op)).setCell ⟨b,3,none⟩ (.bool h.aa)).setCell ⟨b,4,none⟩ (.bool h.tc)).setCell ⟨b,5,none⟩ (.bool h.rd)).setCell ⟨b,6,none⟩ (.bool h.ra)).setCell ⟨b,7,none⟩ (.bool h.ad)).setCell ⟨b,8,none⟩ (.bool h.cd)).setCell ⟨b,9,none⟩ (.int .i64 h.yL)).setCell ⟨b,10,none⟩ q).setCell ⟨b,11,none⟩ a).setCell ⟨b,12,none⟩ u).setCell ⟨b,13,none⟩ d) b h q a u d/\
 w.grownBy ((((((((((((((w.setCell ⟨b,0,none⟩ (.int .i64 h.id)).setCell ⟨b,1,none⟩ (.bool h.KW)).setCell ⟨b,2,none⟩ (.int .i64 h.op)).setCell ⟨b,3,none⟩ (.bool h.aa)).setCell ⟨b,4,none⟩ (.bool h.tc)).setCell ⟨b,5,none⟩ (.bool h.rd)).setCell ⟨b,6,none⟩ (.bool h.ra)).setCell ⟨b,7,none⟩ (.bool h.ad)).setCell ⟨b,8,none⟩ (.bool h.cd)).setCell ⟨b,9,none⟩ (.int .i64 h.yL)).setCell ⟨b,10,none⟩ q).setCell ⟨b,11,none⟩ a).setCell ⟨b,12,none⟩ u).setCell ⟨b,13,none⟩ d) (some b):=by
 have e:=(((((((((((((hb.set0 h.id).set1 h.KW).set2 h.op).set3 h.aa).set4 h.tc).set5 h.rd).set6 h.ra).set7 h.ad).set8 h.cd).set9 h.yL).set10 q).set11 a).set12 u).set13 d;refine⟨e,?_⟩;have g:∀(W:World) (i:Nat) (v:Value),W.grownBy (W.setCell ⟨b,i,none⟩ v) (some b):=λW i v=>grownBy_setCell W ⟨b,i,none⟩ v;exact(((((((((((((g _ _ _).trans (g _ _ _)).trans (g _ _ _)).trans (g _ _ _)).trans (g _ _ _)).trans (g _ _ _)).trans (g _ _ _)).trans (g _ _ _)).trans (g _ _ _)).trans (g _ _ _)).trans (g _ _ _)).trans (g _ _ _)).trans (g _ _ _)).trans (g _ _ _)
theorem msg_size:(Tryz.prog.info? 33).map (·.size)=some 14:=by kernel_rfl
theorem msg_ret {fn:Func}{p:Tmp}(hf:fn.results= #[.cell p 33]){R:Ending->World->Prop}{a:Act}{w:World}{g:Nat}{h:Hd}{q x u d:Value}(hp:a.tmps.getD p undef= .pointer (some ⟨g,0,none⟩))
 (hd:a.defers= []) (hg:qi w g h q x u d) (hR:R (.returned (yu h q x u d)) w):bodyPost Tryz.prog fn R .ret a w:=
 bodyPost_ret_by (results_cell_row hf _ w g _ _ _ _ hp hg Tryz.underlying33 rfl msg_size) hd hR
abbrev hd0:Hd:=⟨0,false,0,false,false,false,false,false,false,0⟩
def SlotV (X:World)(mb:Nat)(v:Value)(l:List Rec):Prop:=ql X v l/\zx v/\(l= []\/v.ownBlock≠some mb)
theorem SlotV.below {X Y:World}{mb:Nat}{v:Value}{l:List Rec}(h:SlotV X mb v l)(hB:Below X.heap.size X Y):SlotV Y mb v l:=⟨h.1.below hB,h.2⟩
theorem recs_keepOne {X Y:World}{v:Value}{l:List Rec}(h:ql X v l)(hs:X.heap.size<=Y.heap.size)(hk:l≠[]->∀b,v.ownBlock=some b->Y.heap[b]? =X.heap[b]?):ql Y v l:=by
 obtain⟨a,cap,rfl,hc,hr⟩:=h;refine⟨a,cap,rfl,hc,λk hk2=>?_⟩;obtain⟨b,off,rfl,hbl,hra⟩:=hr k hk2;exact⟨b,off,rfl,gN hbl hs,hra.keep (hk (List.length_pos_iff.1 (by omega)) b rfl)⟩
theorem SlotV.set {X:World}{mb i:Nat}{v x:Value}{l:List Rec}(h:SlotV X mb v l):SlotV (X.setCell ⟨mb,i,none⟩ x) mb v l:=
 ⟨recs_keepOne h.1 (by simp[World.setCell]) λhl b hb=>gP _ _ _ _ (λe=>h.2.2.elim hl (λh2=>h2 (by rw[hb,e]))),h.2⟩
theorem zZ.QR {w w':World}{base g cap:Nat}{l:List Rec}(h:zZ w base g cap l)(hk:w'.heap[g]? =w.heap[g]?):zZ w' base g cap l:=
 ⟨qm h.1 λb hb=>by simp only[Value.ownBlock,gM]at hb;subst hb;exact hk,h.2⟩
theorem zZ.sets {w:World}{base g cap mb:Nat}{l:List Rec}(h:zZ w base g cap l)(hne:g≠mb)(v1 v2 v3:Value):zZ (((w.setCell ⟨mb,11,none⟩ v1).setCell ⟨mb,12,none⟩ v2).setCell ⟨mb,13,none⟩ v3) base g cap l:=
 ((h.QR (gP _ _ _ _ hne)).QR (gP _ _ _ _ hne)).QR (gP _ _ _ _ hne)
theorem twins_done {w3 wA wU wD:World}{mb ga ca gu cu gd cd:Nat}{h:Hd}{q a u d:Value}{an au ad:List Rec}(hmb:mb<w3.heap.size)
 (hbA:Below w3.drew.heap.size w3.drew wA) (hbU:Below wA.heap.size wA wU) (hbD:Below wU.heap.size wU wD) (hm:qi wD mb h q a u d) (hD:Below w3.heap.size w3 wD)
 (ta:zZ wA w3.drew.heap.size ga ca an) (tu:zZ wU wA.heap.size gu cu au) (td:zZ wD wU.heap.size gd cd ad):
 ∃ga' ca' gu' cu' gd' cd',w3.grownBy (((wD.setCell ⟨mb,11,none⟩ (.slice (some ⟨ga,0,none⟩) an.length ca)).setCell ⟨mb,12,none⟩ (.slice (some ⟨gu,0,none⟩) au.length cu)).setCell ⟨mb,13,none⟩ (.slice (some ⟨gd,0,none⟩) ad.length cd)) (some mb)/\
  qi (((wD.setCell ⟨mb,11,none⟩ (.slice (some ⟨ga,0,none⟩) an.length ca)).setCell ⟨mb,12,none⟩ (.slice (some ⟨gu,0,none⟩) au.length cu)).setCell ⟨mb,13,none⟩ (.slice (some ⟨gd,0,none⟩) ad.length cd)) mb h q (.slice (some ⟨ga',0,none⟩) an.length ca') (.slice (some ⟨gu',0,none⟩) au.length cu') (.slice (some ⟨gd',0,none⟩) ad.length cd')/\
  zZ (((wD.setCell ⟨mb,11,none⟩ (.slice (some ⟨ga,0,none⟩) an.length ca)).setCell ⟨mb,12,none⟩ (.slice (some ⟨gu,0,none⟩) au.length cu)).setCell ⟨mb,13,none⟩ (.slice (some ⟨gd,0,none⟩) ad.length cd)) w3.heap.size ga' ca' an/\
  zZ (((wD.setCell ⟨mb,11,none⟩ (.slice (some ⟨ga,0,none⟩) an.length ca)).setCell ⟨mb,12,none⟩ (.slice (some ⟨gu,0,none⟩) au.length cu)).setCell ⟨mb,13,none⟩ (.slice (some ⟨gd,0,none⟩) ad.length cd)) w3.heap.size gu' cu' au/\
  zZ (((wD.setCell ⟨mb,11,none⟩ (.slice (some ⟨ga,0,none⟩) an.length ca)).setCell ⟨mb,12,none⟩ (.slice (some ⟨gu,0,none⟩) au.length cu)).setCell ⟨mb,13,none⟩ (.slice (some ⟨gd,0,none⟩) ad.length cd)) w3.heap.size gd' cd' ad:=by
 have hz:w3.drew.heap.size=w3.heap.size:=rfl;have s1:=hbA.size;have s2:=hbU.size;have e1:=ta.lt.1;have e2:=tu.lt.1;have e3:=td.lt.1;have g:∀(W:World) (i:Nat) (v:Value),W.grownBy (W.setCell ⟨mb,i,none⟩ v) (some mb):=λW i v=>grownBy_setCell W ⟨mb,i,none⟩ v;have g0:w3.grownBy wD (some mb):=⟨hD.os,hD.tape,hD.output,hD.size,λk hk _=>hD.block k hk⟩;have ta':zZ wD w3.heap.size ga ca an:=(ta.below (gm hbU hbD)).QK (Nat.le_of_eq hz.symm);have tu':zZ wD w3.heap.size gu cu au:=(tu.below hbD).QK (by omega);exact⟨ga,ca,gu,cu,gd,cd,((g0.trans (g _ _ _)).trans (g _ _ _)).trans (g _ _ _),((hm.set11 _).set12 _).set13 _,ta'.sets (by omega) _ _ _,tu'.sets (by omega) _ _ _,(td.QK (by omega)).sets (by omega) _ _ _⟩
def RTwinM (h:Hd)(qs:List Qn)(an au ad:List Rec)(w:World)(e:Ending)(w':World):Prop:=
 ∃q ga ca gu cu gd cd,e= .returned (yu h q (.slice (some ⟨ga,0,none⟩) an.length ca) (.slice (some ⟨gu,0,none⟩) au.length cu) (.slice (some ⟨gd,0,none⟩) ad.length cd))/\Below w.heap.size w w'/\
  w'.ownsRow w.heap.size 78 3 q qs.length (xg qs)/\zZ w' w.heap.size ga ca an/\zZ w' w.heap.size gu cu au/\zZ w' w.heap.size gd cd ad
end Go.Proofs.YtpcmilhjpmlbpaaGreatDoor
namespace Go.Proofs.YtpcmilhjpmlbpaaGreatDoor
open nm
structure Rul where
 name:ByteArray
 below:Bool
 kind:Int
 typ:Int
 ttl:Int
 data:ByteArray
 deriving DecidableEq,Inhabited
namespace pf
def qP (r:Rul):Bool:=qo r.name && decide (0<=r.kind) && decide (r.kind<=4) && (!decide (r.kind=4) || decide (dt.jh r.typ r.data=0) && decide (0<=r.ttl) && decide (r.ttl<=2147483647))
end pf
open Go.RowKit Go.Shelf od
def RulAt (w:World)(b off:Nat)(r:Rul):Prop:=
 w.cell? ⟨b,off,none⟩=some (.string r.name)/\w.cell? ⟨b,off+1,none⟩=some (.bool r.below)/\w.cell? ⟨b,off+2,none⟩=some (.int .i64 r.kind)/\
 w.cell? ⟨b,off+3,none⟩=some (.int .i64 r.typ)/\w.cell? ⟨b,off+4,none⟩=some (.int .i64 r.ttl)/\w.cell? ⟨b,off+5,none⟩=some (.string r.data)
def RulsAt (w:World)(v:Value)(l:List Rul):Prop:=
 ∃a cap,v= .slice a l.length cap/\l.length<=cap/\∀k (hk:k<l.length),∃b off,a=some ⟨b,off,none⟩/\b<w.heap.size/\RulAt w b (off+k*6) l[k]
theorem RulAt.keep {w w':World}{b off:Nat}{r:Rul}(h:RulAt w b off r)(hk:w'.heap[b]? =w.heap[b]?):RulAt w' b off r:=by
 have e:∀i,w'.cell? ⟨b,i,none⟩=w.cell? ⟨b,i,none⟩:=λi=>World.cell?_of_block (w:=w) (a:=⟨b,i,none⟩) hk;exact⟨(e _).trans h.1,(e _).trans h.2.1,(e _).trans h.2.2.1,(e _).trans h.2.2.2.1,(e _).trans h.2.2.2.2.1,(e _).trans h.2.2.2.2.2⟩
theorem RulsAt.below {w w':World}{v:Value}{l:List Rul}(h:RulsAt w v l)(hb:Below w.heap.size w w'):RulsAt w' v l:=by
 obtain⟨a,cap,hv,hc,hr⟩:=h;refine⟨a,cap,hv,hc,λk hk=>?_⟩;obtain⟨b,off,ha,hbl,hra⟩:=hr k hk;exact⟨b,off,ha,gN hbl hb.size,hra.keep (hb.block b hbl)⟩
def RulB (w:World)(b:Nat)(r:Rul):Prop:=
 w.cell? ⟨b,0,none⟩=some (.string r.name)/\w.cell? ⟨b,1,none⟩=some (.bool r.below)/\w.cell? ⟨b,2,none⟩=some (.int .i64 r.kind)/\
 w.cell? ⟨b,3,none⟩=some (.int .i64 r.typ)/\w.cell? ⟨b,4,none⟩=some (.int .i64 r.ttl)/\w.cell? ⟨b,5,none⟩=some (.string r.data)
theorem RulB.below {w w':World}{b:Nat}{r:Rul}(h:RulB w b r)(hl:b<w.heap.size)(hb:Below w.heap.size w w'):RulB w' b r:=by
 have e:∀i,w'.cell? ⟨b,i,none⟩=w.cell? ⟨b,i,none⟩:=λi=>World.cell?_of_block (w:=w) (a:=⟨b,i,none⟩) (hb.block b hl);exact⟨(e _).trans h.1,(e _).trans h.2.1,(e _).trans h.2.2.1,(e _).trans h.2.2.2.1,(e _).trans h.2.2.2.2.1,(e _).trans h.2.2.2.2.2⟩
structure Msg where
 h:Hd
 qs:List Qn
 an:List Rec
 au:List Rec
 ad:List Rec
namespace pf
def sayB (q:Qn)(r:Rul):Bool:=decide (r.kind=4) && (decide (q.typ=r.typ) || decide (q.typ=255) || decide (r.typ=5))
@[reducible] def sayR (q:Qn) (r:Rul):Rec:=⟨q.name,r.typ,1,r.ttl,r.data⟩
def goes (x:Rec):Bool:=x.typ != 41
def told (q:Qn)(r:Rul)(A:Msg):Msg:=⟨{ A.h with aa:=false,yL:=if r.kind=2 then 3 else 0},A.qs,if sayB q r=true then [sayR q r] else [],[],df.keep goes A.ad⟩
end pf
theorem cloneQns_any (l:List Qn)(hl:l.length*32<=140737488355328)(v:Value)(hf:zx v)(w:World)(hrv:yw w v l):
 Calls Tryz.prog 37 #[v] w λe w'=>∃v',e= .returned v'/\Below w.heap.size w w'/\w'.ownsRow w.heap.size 78 3 v' l.length (xg l):=by
 rcases hf with rfl | ⟨b,off,n,cap,rfl⟩
 ·obtain⟨a,cap,hv,hc,_⟩:=hrv;simp only[gL]at hv;have hl0:l= []:=Hm hv.2.1.symm;subst hl0;refine(AnyE.slices_Clone_nil Tryz.cloneQ 0 0 w).mono ?_;rintro e w' ⟨rfl,rfl⟩;exact⟨_,rfl,gJ _ _,gZ w' _ _ 3⟩
 ·obtain⟨rfl,hcl⟩:=qns_cells hrv;obtain⟨i0,hi0,hz0,hz1,hz2⟩:=info_parts info_qn;refine(AnyE.slices_Clone Tryz.cloneQ i0 _ 3 32 hi0 hz0 hz1 hz2 rfl (by omega) (λw=>by kernel_rfl) b off l.length cap (xg l) w (qnsC_len l) (by unfold maxLen;omega) hl hcl (qns_one l)).mono ?_;rintro e w' ⟨v',rfl,h1,_,h2⟩;exact⟨v',rfl,h2,h1⟩
theorem jr {fn:Func}{p t:Tmp}(hf:fn.results= #[.cell p 33,.tmp t]){R:Ending->World->Prop}{a:Act}{w:World}{g:Nat}{h:Hd}{q x u d y:Value}(hp:a.tmps.getD p undef= .pointer (some ⟨g,0,none⟩))
 (ht:a.tmps.getD t undef=y) (hd:a.defers= []) (hg:qi w g h q x u d) (hR:R (.returned (.tuple #[yu h q x u d,y])) w):bodyPost Tryz.prog fn R .ret a w:=by
 refine bodyPost_ret_by ?_ hd hR;have hp':a.tmps[p]?.getD undef= .pointer (some ⟨g,0,none⟩):=by simpa using hp
 have ht':a.tmps[t]?.getD undef=y:=by simpa using ht
 simp[results,hf,hp',ht',asAddr,run_loadVar_row w g _ 33 _ _ _ hg Tryz.underlying33 rfl msg_size]
def va (X:World)(b i:Nat):Value:=(X.cell? ⟨b,i,none⟩).getD undef
theorem va_of {X:World}{b i:Nat}{v:Value}(h:X.cell? ⟨b,i,none⟩=some v):va X b i=v:=by unfold va;rw[h];rfl
@[reducible] def InvO (w:World) (mb ob:Nat) (h:Hd) (q a u d:Value) (X:World):Prop:=
 w.grownBy X (some ob)/\qi X ob h (va X ob 10) (va X ob 11) (va X ob 12) (va X ob 13)/\(X.cell? ⟨mb,10,none⟩=some q/\X.cell? ⟨mb,11,none⟩=some a/\X.cell? ⟨mb,12,none⟩=some u/\X.cell? ⟨mb,13,none⟩=some d)/\
 (X.cell? ⟨ob,10,none⟩=some (va X ob 10)/\X.cell? ⟨ob,11,none⟩=some (va X ob 11)/\X.cell? ⟨ob,12,none⟩=some (va X ob 12)/\X.cell? ⟨ob,13,none⟩=some (va X ob 13))/\
 (X.frozen? ⟨ob,10,none⟩=false/\X.frozen? ⟨ob,11,none⟩=false/\X.frozen? ⟨ob,12,none⟩=false/\X.frozen? ⟨ob,13,none⟩=false)
theorem invO_of {w X:World}{mb ob:Nat}{hm h:Hd}{q a u d q' a' u' d':Value}(hg:w.grownBy X (some ob))(hm0:qi w mb hm q a u d)(hne:mb≠ob)(ho:qi X ob h q' a' u' d'):InvO w mb ob h q a u d X:=by
 obtain⟨_,_,_,_,_,_,_,_,_,_,x10,x11,x12,x13⟩:=ho.facts;have hmX:qi X mb hm q a u d:=(hg.block mb hm0.lt (λe=>hne (by simpa using e))).trans hm0;obtain⟨_,_,_,_,_,_,_,_,_,_,y10,y11,y12,y13⟩:=hmX.facts;unfold InvO;rw[va_of x10,va_of x11,va_of x12,va_of x13];exact⟨hg,ho,⟨y10,y11,y12,y13⟩,⟨x10,x11,x12,x13⟩,ho.free 10,ho.free 11,ho.free 12,ho.free 13⟩
section
variable {w X Y:World}{mb ob:Nat}{hm h:Hd}{q a u d:Value}
theorem InvO.below (hm0:qi w mb hm q a u d)(hne:mb≠ob)(hi:InvO w mb ob h q a u d X)(hB:Below X.heap.size X Y):InvO w mb ob h q a u d Y:=
 invO_of (hi.1.trans ⟨hB.os,hB.tape,hB.output,hB.size,λk hk _=>hB.block k hk⟩) hm0 hne (hi.2.1.below hB)
end
structure FR (base:Nat)(w:World)(ob rb:Nat)(q a u d:Value)(qs:List Qn)(an au ad:List Rec):Prop where
 rq:w.ownsRow base 78 3 q qs.length (xg qs)
 lo:Loose base w q a u d qs.length an au ad
 oq:q.ownBlock≠some ob/\q.ownBlock≠some rb
 oa:a.ownBlock≠some ob/\a.ownBlock≠some rb
 ou:u.ownBlock≠some ob/\u.ownBlock≠some rb
 od_:d.ownBlock≠some ob/\d.ownBlock≠some rb
section
variable {base ob rb:Nat}{w w':World}{q a u d:Value}{qs:List Qn}{an au ad:List Rec}
theorem FR.keep (h:FR base w ob rb q a u d qs an au ad)(hs:w.heap.size<=w'.heap.size)(hk:∀b,b<w.heap.size->b≠ob->b≠rb->w'.heap[b]? =w.heap[b]?):FR base w' ob rb q a u d qs an au ad:=by
 have kr:∀{v:Value} {e:TypeId} {sz n:Nat} {xs:List Value},w.ownsRow base e sz v n xs->v.ownBlock≠some ob/\v.ownBlock≠some rb->w'.ownsRow base e sz v n xs:=λhr ho=>
  qm hr λb hb=>hk b (hr.lt b hb).2 (λe=>ho.1 (by rw[hb,e])) (λe=>ho.2 (by rw[hb,e]))
 exact⟨kr h.rq h.oq,⟨⟨_,kr h.rq h.oq⟩,kr h.lo.ra h.oa,kr h.lo.ru h.ou,kr h.lo.rd h.od_,h.lo.qa,h.lo.qu,h.lo.qd,h.lo.au_,h.lo.ad_,h.lo.ud,gQ h.lo.QK hs⟩,h.oq,h.oa,h.ou,h.od_⟩
theorem FR.below (h:FR base w ob rb q a u d qs an au ad)(hB:Below w.heap.size w w'):FR base w' ob rb q a u d qs an au ad:=h.keep hB.size λb hb _ _=>hB.block b hb
theorem FR.set (h:FR base w ob rb q a u d qs an au ad)(i:Nat)(v:Value):FR base (w.setCell ⟨ob,i,none⟩ v) ob rb q a u d qs an au ad:=h.keep (by simp[World.setCell]) λb _ hne _=>gP _ _ _ _ hne
end
theorem Z7 (base:Nat)(h:Hd)(qs:List Qn)(an au ad:List Rec)(hq:qs.length<=1000000000000)(ha:an.length<=1000000000000)(hu:au.length<=1000000000000)(hd:ad.length<=1000000000000)(q:Value)(ga ca gu cu gd cd:Nat)(q' a' u' d':Value)(w:World)
 (q1:yw w q qs) (a1:zZ w base ga ca an) (u1:zZ w base gu cu au) (d1:zZ w base gd cd ad) (q2:yw w q' qs) (a2:ql w a' an) (u2:ql w u' au) (d2:ql w d' ad):
 Calls Tryz.prog 14 #[yu h q (.slice (some ⟨ga,0,none⟩) an.length ca) (.slice (some ⟨gu,0,none⟩) au.length cu) (.slice (some ⟨gd,0,none⟩) ad.length cd),yu h q' a' u' d'] w λe w'=>e= .returned (.bool true)/\Below w.heap.size w w':=by
 obtain⟨w1,hw1⟩:=yM (w.alloc (.cells (yT h q (.slice (some ⟨ga,0,none⟩) an.length ca) (.slice (some ⟨gu,0,none⟩) au.length cu) (.slice (some ⟨gd,0,none⟩) ad.length cd)).toArray 33));obtain⟨w2,hw2⟩:=yM (w1.alloc (.cells (yT h q' a' u' d').toArray 33));obtain⟨hB1,hs1,hm1⟩:=zG hw1;obtain⟨hB2,hs2,hm2⟩:=zG hw2;have HX2:=qe (hm1.below hB2);have HB2:=qe (gm hB1 hB2);rw[hs1]at hm2;obtain⟨x0,x1,x2,x3,x4,x5,x6,x7,x8,x9,x10,x11,x12,x13⟩:=HX2.out.facts;obtain⟨y0,y1,y2,y3,y4,y5,y6,y7,y8,y9,y10,y11,y12,y13⟩:=hm2.facts;have HY2:=qe hm2;clear hm1 hm2 hs1 hs2 hB1 hB2;have HW1:=qe hw1;have HW2:=qe hw2;clear hw1 hw2;have HQ1:=qe q1;have HQ2:=qe q2;have HA1:=qe a1;have HA2:=qe a2;have HU1:=qe u1;have HU2:=qe u2;have HD1:=qe d1;have HD2:=qe d2;clear q1 q2 a1 a2 u1 u2 d1 d2
 go_enter Tryz.func14,Tryz.ntmps14
 go_upto_region 1 with fail;rw[<- HW1.out,<- HW2.out];go_wp2_with fail;refine(head_same h _ _ _ _ _ _ _ _ _).mono ?_;rintro e w3 ⟨rfl,hB3⟩;clear x0 x1 x2 x3 x4 x5 x6 x7 x8 x9 y0 y1 y2 y3 y4 y5 y6 y7 y8 y9;have HX3:=qe (HX2.out.below hB3);have HY3:=qe (HY2.out.below hB3);have HB3:=qe (gm HB2.out hB3);clear hB3 x10 x11 x12 x13 y10 y11 y12 y13;obtain⟨_,_,_,_,_,_,_,_,_,_,x10,x11,x12,x13⟩:=HX3.out.facts;obtain⟨_,_,_,_,_,_,_,_,_,_,y10,y11,y12,y13⟩:=HY3.out.facts;go_wp2_with fail;refine(Jn qs hq _ _ w3 (HQ1.out.below HB3.out) (HQ2.out.below HB3.out)).mono ?_;rintro e w4 ⟨rfl,hB4⟩;have HX4:=qe (HX3.out.below hB4);have HY4:=qe (HY3.out.below hB4);have HB4:=qe (gm HB3.out hB4);clear hB4 x10 x11 x12 x13 y10 y11 y12 y13;obtain⟨_,_,_,_,_,_,_,_,_,_,x10,x11,x12,x13⟩:=HX4.out.facts;obtain⟨_,_,_,_,_,_,_,_,_,_,y10,y11,y12,y13⟩:=HY4.out.facts;have ta:=HA1.out.below HB4.out;go_wp2_with fail;refine(Vn base ga ca an ha _ w4 ta.1 ta.2 (HA2.out.below HB4.out)).mono ?_;rintro e w5 ⟨rfl,hB5⟩;clear ta;have HX5:=qe (HX4.out.below hB5);have HY5:=qe (HY4.out.below hB5);have HB5:=qe (gm HB4.out hB5);clear hB5 x10 x11 x12 x13 y10 y11 y12 y13;obtain⟨_,_,_,_,_,_,_,_,_,_,x10,x11,x12,x13⟩:=HX5.out.facts;obtain⟨_,_,_,_,_,_,_,_,_,_,y10,y11,y12,y13⟩:=HY5.out.facts;have tu:=HU1.out.below HB5.out;go_wp2_with fail;refine(Vn base gu cu au hu _ w5 tu.1 tu.2 (HU2.out.below HB5.out)).mono ?_;rintro e w6 ⟨rfl,hB6⟩;clear tu;have HX6:=qe (HX5.out.below hB6);have HY6:=qe (HY5.out.below hB6);have HB6:=qe (gm HB5.out hB6);clear hB6 x10 x11 x12 x13 y10 y11 y12 y13;obtain⟨_,_,_,_,_,_,_,_,_,_,x10,x11,x12,x13⟩:=HX6.out.facts;obtain⟨_,_,_,_,_,_,_,_,_,_,y10,y11,y12,y13⟩:=HY6.out.facts;have td:=HD1.out.below HB6.out;go_wp2_with fail;refine(Vn base gd cd ad hd _ w6 td.1 td.2 (HD2.out.below HB6.out)).mono ?_;rintro e w7 ⟨rfl,hB7⟩;have HB7:=qe (gm HB6.out hB7);clear hB7 td;go_wp2_with fail;go_ret;exact⟨rfl,HB7.out⟩
structure KJ (w:World)(M:Msg)(q a u d:Value):Prop where
 rq:yw w q M.qs
 ra:ql w a M.an
 ru:ql w u M.au
 rd:ql w d M.ad
theorem KJ.below {w w':World}{M:Msg}{q a u d:Value}(h:KJ w M q a u d)(hB:Below w.heap.size w w'):KJ w' M q a u d:=⟨h.rq.below hB,h.ra.below hB,h.ru.below hB,h.rd.below hB⟩
structure MsgFit (M:Msg)(q a u d:Value):Prop where
 nq:M.qs.length<=1048576
 na:M.an.length<=1048576
 nu:M.au.length<=1048576
 nd:M.ad.length<=1048576
 fq:zx q
 fa:zx a
 fu:zx u
 fd:zx d
theorem Loose.below {w w':World}{base nq:Nat}{q a u d:Value}{an au ad:List Rec}(h:Loose base w q a u d nq an au ad)(hB:Below w.heap.size w w'):Loose base w' q a u d nq an au ad:=
 ⟨by obtain⟨xs,hx⟩:=h.qs;exact⟨xs,ownsRow_below hx hB⟩,ownsRow_below h.ra hB,ownsRow_below h.ru hB,ownsRow_below h.rd hB,h.qa,h.qu,h.qd,h.au_,h.ad_,h.ud,gQ h.QK hB.size⟩
def uf (w:World)(v:Value)(l:List Msg):Prop:=∃ao cap,v= .slice ao l.length cap/\l.length<=cap/\
 ∀k (hk:k<l.length),∃b off q a u d,ao=some ⟨b,off,none⟩/\b<w.heap.size/\(∀j x,(yT l[k].h q a u d)[j]? =some x->w.cell? ⟨b,off+k*14+j,none⟩=some x)/\KJ w l[k] q a u d/\
  (l[k].qs.length<=1000000000000/\l[k].an.length<=1000000000000/\l[k].au.length<=1000000000000/\l[k].ad.length<=1000000000000)
theorem uf.below {w w':World}{v:Value}{l:List Msg}(h:uf w v l)(hB:Below w.heap.size w w'):uf w' v l:=by
 obtain⟨ao,cap,h1,h2,h3⟩:=h;refine⟨ao,cap,h1,h2,λk hk=>?_⟩;obtain⟨b,off,q,a,u,d,e,hb,hc,hi,hf⟩:=h3 k hk;exact⟨b,off,q,a,u,d,e,gN hb hB.size,λj x hx=>(hB.cell (p:=⟨b,_,none⟩) hb).trans (hc j x hx),hi.below hB,hf⟩
theorem xW {w:World}{ao:Option Addr}{n cap:Nat}{l:List Msg}(h:uf w (.slice ao n cap) l){k:Nat}(hk:k<l.length):
 ∃b off q a u d,ao=some ⟨b,off,none⟩/\(w.cell? ⟨b,off+k*14,none⟩=some (.int .i64 l[k].h.id)/\w.cell? ⟨b,off+k*14+1,none⟩=some (.bool l[k].h.KW)/\w.cell? ⟨b,off+k*14+2,none⟩=some (.int .i64 l[k].h.op)/\w.cell? ⟨b,off+k*14+3,none⟩=some (.bool l[k].h.aa)/\w.cell? ⟨b,off+k*14+4,none⟩=some (.bool l[k].h.tc)/\w.cell? ⟨b,off+k*14+5,none⟩=some (.bool l[k].h.rd)/\w.cell? ⟨b,off+k*14+6,none⟩=some (.bool l[k].h.ra)/\w.cell? ⟨b,off+k*14+7,none⟩=some (.bool l[k].h.ad)/\w.cell? ⟨b,off+k*14+8,none⟩=some (.bool l[k].h.cd)/\w.cell? ⟨b,off+k*14+9,none⟩=some (.int .i64 l[k].h.yL)/\w.cell? ⟨b,off+k*14+10,none⟩=some (q)/\w.cell? ⟨b,off+k*14+11,none⟩=some (a)/\w.cell? ⟨b,off+k*14+12,none⟩=some (u)/\w.cell? ⟨b,off+k*14+13,none⟩=some (d))/\KJ w l[k] q a u d/\
  (l[k].qs.length<=1000000000000/\l[k].an.length<=1000000000000/\l[k].au.length<=1000000000000/\l[k].ad.length<=1000000000000):=by
 obtain⟨ao',cap',hv,_,h3⟩:=h;simp only[gL]at hv;obtain⟨rfl,-,-⟩:=hv;obtain⟨b,off,q,a,u,d,e,_,hc,hi,hf⟩:=h3 k hk;exact⟨b,off,q,a,u,d,e,⟨hc 0 _ rfl,hc 1 _ rfl,hc 2 _ rfl,hc 3 _ rfl,hc 4 _ rfl,hc 5 _ rfl,hc 6 _ rfl,hc 7 _ rfl,hc 8 _ rfl,hc 9 _ rfl,hc 10 _ rfl,hc 11 _ rfl,hc 12 _ rfl,hc 13 _ rfl⟩,hi,hf⟩
end Go.Proofs.YtpcmilhjpmlbpaaGreatDoor
