import Derived.Test.YtdjjemajfphjaaaGreatQWirB
import Derived.Test.YtdjjemajfphjaaaGreatQRefU
import Derived.Test.YtdjjemajfphjaaaGreatQUpdZ
import Derived.Test.YtdjjemajfphjaaaGreatQUpdD
import Derived.Deep.RegionWith
import Derived.Deep.DeepMust
set_option maxRecDepth 100000
set_option maxHeartbeats 4000000
namespace Go.Proofs.YtdjjemajfphjaaaGreat
open Go.RowKit Go.Shelf nm od
def YW (l:List Qn):List Value:=l.flatMap qnC
theorem qnsC_len (l:List Qn):(YW l).length=l.length*3:=by
 induction l with
 | nil=>rfl
 | cons a t ih=>
   have e:YW (a :: t)=qnC a ++ YW t:=rfl
   rw[e,List.length_append,ih,List.length_cons]
   show 3+t.length*3=(t.length+1)*3
   omega
theorem qns_one (l:List Qn):∀u∈YW l,u.oneCell'=true:=fun u hu=>by
 unfold YW at hu
 obtain⟨r,_,hr⟩:=List.mem_flatMap.1 hu
 simp only[List.mem_cons,List.not_mem_nil,or_false]at hr
 rcases hr with rfl | rfl | rfl <;> rfl
theorem qnsC_at:∀(l:List Qn) (t:Nat) (ht:t<l.length*3),(YW l)[t]? =(qnC (l[t / 3]'(by omega)))[t % 3]?
 | [],t,ht=>absurd ht (by simp)
 | a :: r,t,ht=>by
   have e:YW (a :: r)= .string a.name :: .int .i64 a.typ :: .int .i64 a.cls :: YW r:=rfl
   rw[e]
   match t,ht with
   | 0,_=>rfl
   | 1,_=>rfl
   | 2,_=>rfl
   | t+3,ht=>
     have ih:=qnsC_at r t (by simp at ht;omega)
     simp only[List.getElem?_cons_succ]
     rw[ih]
     have h1:(t+3) / 3=t / 3+1:=by omega
     have h2:(t+3) % 3=t % 3:=by omega
     simp only[h1,h2,List.getElem_cons_succ]
theorem qns_cells {w:World}{b off n cap:Nat}{l:List Qn}(h:kJ w (.slice (some ⟨b,off,none⟩) n cap) l):n=l.length∧∀j u,(YW l)[j]? =some u→w.cell? ⟨b,off+j,none⟩=some u:=by
 obtain⟨a',cap',hv,_,hr⟩:=h
 simp only[Value.slice.injEq]at hv
 refine⟨hv.2.1,fun j u hu=>?_⟩
 have hj:j<l.length*3:=by
  have:=(List.getElem?_eq_some_iff.1 hu).1
  rwa [qnsC_len]at this
 rw[qnsC_at l j hj]at hu
 obtain⟨b',off',ha,_,c0,c1,c2⟩:=hr (j / 3) (by omega)
 rw[← hv.1]at ha
 simp only[Option.some.injEq,Addr.mk.injEq,and_true]at ha
 obtain⟨rfl,rfl⟩:=ha
 have hd:j=j / 3*3+j % 3:=by omega
 have hm:j % 3<3:=Nat.mod_lt _ (by omega)
 rw[show off+j=off+j / 3*3+j % 3 by omega]
 have key:∀i,i<3→(qnC (l[j / 3]'(by omega)))[i]? =some u→w.cell? ⟨b,off+j / 3*3+i,none⟩=some u:=fun i hi h=>by
  match i,hi with
  | 0,_=>simp only[List.getElem?_cons_zero,Option.some.injEq]at h;rw[← h];exact c0
  | 1,_=>simp only[List.getElem?_cons_succ,List.getElem?_cons_zero,Option.some.injEq]at h;rw[← h];exact c1
  | 2,_=>simp only[List.getElem?_cons_succ,List.getElem?_cons_zero,Option.some.injEq]at h;rw[← h];exact c2
 exact key _ hm hu
theorem owns_qns {w:World}{base:Nat}{v:Value}{l:List Qn}(h:w.ownsRow base 63 3 v l.length (YW l)):kJ w v l:=by
 obtain⟨a,cap,rfl,hc⟩:=qC h
 refine⟨a,cap,rfl,hc,fun k hk=>?_⟩
 obtain⟨g,cap',hv,_,_⟩:=h.form (by omega)
 simp only[Value.slice.injEq,true_and]at hv
 obtain⟨rfl,rfl⟩:=hv
 refine⟨g,0,rfl,(h.lt g rfl).2,?_⟩
 have e:∀i,i<3→w.cell? ⟨g,0+k*3+i,none⟩=(qnC l[k])[i]?:=fun i hi=>by
  rw[h.cellAt _ (by omega),qnsC_at l _ (by omega)]
  have h1:(0+k*3+i) / 3=k:=by omega
  have h2:(0+k*3+i) % 3=i:=by omega
  simp only[h1,h2]
 exact⟨e 0 (by omega),e 1 (by omega),e 2 (by omega)⟩
theorem info_qn:(Tryz.prog.info? 63).map (fun i=>(i.zero,i.size,i.bytes))=some (some (.agg #[.string ⟨#[]⟩,.int .i64 0,.int .i64 0]),3,32):=by kernel_rfl
def zZ (w:World)(base g cap:Nat)(l:List Rec):Prop:=w.ownsRow base 51 5 (.slice (some ⟨g,0,none⟩) (l.length+2) cap) (l.length+2) (qG (l ++ [zG,zG]))∧l.length+2≤cap
theorem zZ.below {w w':World}{base g cap:Nat}{l:List Rec}(h:zZ w base g cap l)(hB:Below w.heap.size w w'):zZ w' base g cap l:=⟨ownsRow_below h.1 hB,h.2⟩
theorem zZ.kI {w:World}{base base' g cap:Nat}{l:List Rec}(h:zZ w base g cap l)(hb:base'≤base):zZ w base' g cap l:=⟨yj h.1 hb,h.2⟩
theorem zZ.lt {w:World}{base g cap:Nat}{l:List Rec}(h:zZ w base g cap l):base≤g∧g<w.heap.size:=h.1.lt g rfl
theorem zZ.recs {w:World}{base g cap:Nat}{l:List Rec}(h:zZ w base g cap l):qy w (.slice (some ⟨g,0,none⟩) l.length cap) l:=by
 have hfull:qy w (.slice (some ⟨g,0,none⟩) (l.length+2) cap) (l ++ [zG,zG]):=qO (base:=base) (by rw[List.length_append];exact h.1)
 have:=YU (k:=l.length) hfull (by rw[List.length_append];omega)
 rw[List.take_left]at this
 exact this
section
variable {w:World}{b:Nat}{h:Hd}{q a u d:Value}
theorem yn.set0 (hb:yn w b h q a u d)(v:Int):yn (w.setCell ⟨b,0,none⟩ (.int .i64 v)) b { h with id:=v} q a u d:=(qB hb 0 (.int .i64 v)).trans rfl
theorem yn.set1 (hb:yn w b h q a u d)(v:Bool):yn (w.setCell ⟨b,1,none⟩ (.bool v)) b { h with UU:=v} q a u d:=(qB hb 1 (.bool v)).trans rfl
theorem yn.set2 (hb:yn w b h q a u d)(v:Int):yn (w.setCell ⟨b,2,none⟩ (.int .i64 v)) b { h with op:=v} q a u d:=(qB hb 2 (.int .i64 v)).trans rfl
theorem yn.set3 (hb:yn w b h q a u d)(v:Bool):yn (w.setCell ⟨b,3,none⟩ (.bool v)) b { h with aa:=v} q a u d:=(qB hb 3 (.bool v)).trans rfl
theorem yn.set4 (hb:yn w b h q a u d)(v:Bool):yn (w.setCell ⟨b,4,none⟩ (.bool v)) b { h with tc:=v} q a u d:=(qB hb 4 (.bool v)).trans rfl
theorem yn.set5 (hb:yn w b h q a u d)(v:Bool):yn (w.setCell ⟨b,5,none⟩ (.bool v)) b { h with rd:=v} q a u d:=(qB hb 5 (.bool v)).trans rfl
theorem yn.set6 (hb:yn w b h q a u d)(v:Bool):yn (w.setCell ⟨b,6,none⟩ (.bool v)) b { h with ra:=v} q a u d:=(qB hb 6 (.bool v)).trans rfl
theorem yn.set7 (hb:yn w b h q a u d)(v:Bool):yn (w.setCell ⟨b,7,none⟩ (.bool v)) b { h with ad:=v} q a u d:=(qB hb 7 (.bool v)).trans rfl
theorem yn.set8 (hb:yn w b h q a u d)(v:Bool):yn (w.setCell ⟨b,8,none⟩ (.bool v)) b { h with cd:=v} q a u d:=(qB hb 8 (.bool v)).trans rfl
theorem yn.set9 (hb:yn w b h q a u d)(v:Int):yn (w.setCell ⟨b,9,none⟩ (.int .i64 v)) b { h with vE:=v} q a u d:=(qB hb 9 (.int .i64 v)).trans rfl
theorem yn.set10 (hb:yn w b h q a u d)(v:Value):yn (w.setCell ⟨b,10,none⟩ v) b h v a u d:=(qB hb 10 v).trans rfl
theorem yn.set11 (hb:yn w b h q a u d)(v:Value):yn (w.setCell ⟨b,11,none⟩ v) b h q v u d:=(qB hb 11 v).trans rfl
theorem yn.set12 (hb:yn w b h q a u d)(v:Value):yn (w.setCell ⟨b,12,none⟩ v) b h q a v d:=(qB hb 12 v).trans rfl
theorem yn.set13 (hb:yn w b h q a u d)(v:Value):yn (w.setCell ⟨b,13,none⟩ v) b h q a u v:=(qB hb 13 v).trans rfl
end
theorem XL {w:World}{b:Nat}{h0:Hd}{q0 a0 u0 d0:Value}(hb:yn w b h0 q0 a0 u0 d0)(h:Hd)(q a u d:Value):
 yn ((((((((((((((w.setCell ⟨b,0,none⟩ (.int .i64 h.id)).setCell ⟨b,1,none⟩ (.bool h.UU)).setCell ⟨b,2,none⟩ (.int .i64 h.op)).setCell ⟨b,3,none⟩ (.bool h.aa)).setCell ⟨b,4,none⟩ (.bool h.tc)).setCell ⟨b,5,none⟩ (.bool h.rd)).setCell ⟨b,6,none⟩ (.bool h.ra)).setCell ⟨b,7,none⟩ (.bool h.ad)).setCell ⟨b,8,none⟩ (.bool h.cd)).setCell ⟨b,9,none⟩ (.int .i64 h.vE)).setCell ⟨b,10,none⟩ q).setCell ⟨b,11,none⟩ a).setCell ⟨b,12,none⟩ u).setCell ⟨b,13,none⟩ d) b h q a u d∧
 w.grownBy ((((((((((((((w.setCell ⟨b,0,none⟩ (.int .i64 h.id)).setCell ⟨b,1,none⟩ (.bool h.UU)).setCell ⟨b,2,none⟩ (.int .i64 h.op)).setCell ⟨b,3,none⟩ (.bool h.aa)).setCell ⟨b,4,none⟩ (.bool h.tc)).setCell ⟨b,5,none⟩ (.bool h.rd)).setCell ⟨b,6,none⟩ (.bool h.ra)).setCell ⟨b,7,none⟩ (.bool h.ad)).setCell ⟨b,8,none⟩ (.bool h.cd)).setCell ⟨b,9,none⟩ (.int .i64 h.vE)).setCell ⟨b,10,none⟩ q).setCell ⟨b,11,none⟩ a).setCell ⟨b,12,none⟩ u).setCell ⟨b,13,none⟩ d) (some b):=by
 have e:=(((((((((((((hb.set0 h.id).set1 h.UU).set2 h.op).set3 h.aa).set4 h.tc).set5 h.rd).set6 h.ra).set7 h.ad).set8 h.cd).set9 h.vE).set10 q).set11 a).set12 u).set13 d
 refine⟨e,?_⟩
 have g:∀(W:World) (i:Nat) (v:Value),W.grownBy (W.setCell ⟨b,i,none⟩ v) (some b):=fun W i v=>grownBy_setCell W ⟨b,i,none⟩ v
 exact(((((((((((((g _ _ _).trans (g _ _ _)).trans (g _ _ _)).trans (g _ _ _)).trans (g _ _ _)).trans (g _ _ _)).trans (g _ _ _)).trans (g _ _ _)).trans (g _ _ _)).trans (g _ _ _)).trans (g _ _ _)).trans (g _ _ _)).trans (g _ _ _)).trans (g _ _ _)
theorem msg_size:(Tryz.prog.info? 25).map (·.size)=some 14:=by kernel_rfl
theorem msg_ret {fn:Func}{p:Tmp}(hf:fn.results= #[.cell p 25]){R:Ending→World→Prop}{a:Act}{w:World}{g:Nat}{h:Hd}{q x u d:Value}(hp:a.tmps.getD p undef= .pointer (some ⟨g,0,none⟩))
 (hd:a.defers= []) (hg:yn w g h q x u d) (hR:R (.returned (Yg h q x u d)) w):bodyPost Tryz.prog fn R .ret a w:=
 bodyPost_ret_by (results_cell_row hf _ w g _ _ _ _ hp hg Tryz.underlying25 rfl msg_size) hd hR
abbrev hd0:Hd:=⟨0,false,0,false,false,false,false,false,false,0⟩
def SlotV (X:World)(mb:Nat)(v:Value)(l:List Rec):Prop:=qy X v l∧yS v∧(l= []∨v.ownBlock≠some mb)
theorem SlotV.below {X Y:World}{mb:Nat}{v:Value}{l:List Rec}(h:SlotV X mb v l)(hB:Below X.heap.size X Y):SlotV Y mb v l:=⟨h.1.below hB,h.2⟩
theorem recs_keepOne {X Y:World}{v:Value}{l:List Rec}(h:qy X v l)(hs:X.heap.size≤Y.heap.size)(hk:l≠[]→∀b,v.ownBlock=some b→Y.heap[b]? =X.heap[b]?):qy Y v l:=by
 obtain⟨a,cap,rfl,hc,hr⟩:=h
 refine⟨a,cap,rfl,hc,fun k hk2=>?_⟩
 obtain⟨b,off,rfl,hbl,hra⟩:=hr k hk2
 exact⟨b,off,rfl,Nat.lt_of_lt_of_le hbl hs,hra.keep (hk (List.length_pos_iff.1 (by omega)) b rfl)⟩
theorem SlotV.set {X:World}{mb i:Nat}{v x:Value}{l:List Rec}(h:SlotV X mb v l):SlotV (X.setCell ⟨mb,i,none⟩ x) mb v l:=
 ⟨recs_keepOne h.1 (by simp[World.setCell]) fun hl b hb=>Below.heap_setCell _ _ _ _ (fun e=>h.2.2.elim hl (fun h2=>h2 (by rw[hb,e]))),h.2⟩
theorem zZ.slot {w:World}{base g cap mb:Nat}{l:List Rec}(h:zZ w base g cap l)(hne:g≠mb):SlotV w mb (.slice (some ⟨g,0,none⟩) l.length cap) l:=
 ⟨h.recs,.inr ⟨g,0,_,_,rfl⟩,.inr fun e=>hne (by simpa[Value.ownBlock] using e)⟩
theorem zZ.JA {w w':World}{base g cap:Nat}{l:List Rec}(h:zZ w base g cap l)(hk:w'.heap[g]? =w.heap[g]?):zZ w' base g cap l:=
 ⟨qi h.1 fun b hb=>by simp only[Value.ownBlock,Option.some.injEq]at hb;subst hb;exact hk,h.2⟩
theorem zZ.sets {w:World}{base g cap mb:Nat}{l:List Rec}(h:zZ w base g cap l)(hne:g≠mb)(v1 v2 v3:Value):zZ (((w.setCell ⟨mb,11,none⟩ v1).setCell ⟨mb,12,none⟩ v2).setCell ⟨mb,13,none⟩ v3) base g cap l:=
 ((h.JA (Below.heap_setCell _ _ _ _ hne)).JA (Below.heap_setCell _ _ _ _ hne)).JA (Below.heap_setCell _ _ _ _ hne)
theorem twins_done {w3 wA wU wD:World}{mb ga ca gu cu gd cd:Nat}{h:Hd}{q a u d:Value}{an au ad:List Rec}(hmb:mb<w3.heap.size)
 (hbA:Below w3.drew.heap.size w3.drew wA) (hbU:Below wA.heap.size wA wU) (hbD:Below wU.heap.size wU wD) (hm:yn wD mb h q a u d) (hD:Below w3.heap.size w3 wD)
 (ta:zZ wA w3.drew.heap.size ga ca an) (tu:zZ wU wA.heap.size gu cu au) (td:zZ wD wU.heap.size gd cd ad):
 ∃ga' ca' gu' cu' gd' cd',w3.grownBy (((wD.setCell ⟨mb,11,none⟩ (.slice (some ⟨ga,0,none⟩) an.length ca)).setCell ⟨mb,12,none⟩ (.slice (some ⟨gu,0,none⟩) au.length cu)).setCell ⟨mb,13,none⟩ (.slice (some ⟨gd,0,none⟩) ad.length cd)) (some mb)∧
  yn (((wD.setCell ⟨mb,11,none⟩ (.slice (some ⟨ga,0,none⟩) an.length ca)).setCell ⟨mb,12,none⟩ (.slice (some ⟨gu,0,none⟩) au.length cu)).setCell ⟨mb,13,none⟩ (.slice (some ⟨gd,0,none⟩) ad.length cd)) mb h q (.slice (some ⟨ga',0,none⟩) an.length ca') (.slice (some ⟨gu',0,none⟩) au.length cu') (.slice (some ⟨gd',0,none⟩) ad.length cd')∧
  zZ (((wD.setCell ⟨mb,11,none⟩ (.slice (some ⟨ga,0,none⟩) an.length ca)).setCell ⟨mb,12,none⟩ (.slice (some ⟨gu,0,none⟩) au.length cu)).setCell ⟨mb,13,none⟩ (.slice (some ⟨gd,0,none⟩) ad.length cd)) w3.heap.size ga' ca' an∧
  zZ (((wD.setCell ⟨mb,11,none⟩ (.slice (some ⟨ga,0,none⟩) an.length ca)).setCell ⟨mb,12,none⟩ (.slice (some ⟨gu,0,none⟩) au.length cu)).setCell ⟨mb,13,none⟩ (.slice (some ⟨gd,0,none⟩) ad.length cd)) w3.heap.size gu' cu' au∧
  zZ (((wD.setCell ⟨mb,11,none⟩ (.slice (some ⟨ga,0,none⟩) an.length ca)).setCell ⟨mb,12,none⟩ (.slice (some ⟨gu,0,none⟩) au.length cu)).setCell ⟨mb,13,none⟩ (.slice (some ⟨gd,0,none⟩) ad.length cd)) w3.heap.size gd' cd' ad:=by
 have hz:w3.drew.heap.size=w3.heap.size:=rfl
 have s1:=hbA.size
 have s2:=hbU.size
 have e1:=ta.lt.1
 have e2:=tu.lt.1
 have e3:=td.lt.1
 have g:∀(W:World) (i:Nat) (v:Value),W.grownBy (W.setCell ⟨mb,i,none⟩ v) (some mb):=fun W i v=>grownBy_setCell W ⟨mb,i,none⟩ v
 have g0:w3.grownBy wD (some mb):=⟨hD.os,hD.tape,hD.output,hD.size,fun k hk _=>hD.block k hk⟩
 have ta':zZ wD w3.heap.size ga ca an:=(ta.below (hbU.trans (hbD.mono hbU.size))).kI (Nat.le_of_eq hz.symm)
 have tu':zZ wD w3.heap.size gu cu au:=(tu.below hbD).kI (by omega)
 exact⟨ga,ca,gu,cu,gd,cd,((g0.trans (g _ _ _)).trans (g _ _ _)).trans (g _ _ _),((hm.set11 _).set12 _).set13 _,ta'.sets (by omega) _ _ _,tu'.sets (by omega) _ _ _,(td.kI (by omega)).sets (by omega) _ _ _⟩
def RTwinM (h:Hd)(qs:List Qn)(an au ad:List Rec)(w:World)(e:Ending)(w':World):Prop:=
 ∃q ga ca gu cu gd cd,e= .returned (Yg h q (.slice (some ⟨ga,0,none⟩) an.length ca) (.slice (some ⟨gu,0,none⟩) au.length cu) (.slice (some ⟨gd,0,none⟩) ad.length cd))∧Below w.heap.size w w'∧
  w'.ownsRow w.heap.size 63 3 q qs.length (YW qs)∧zZ w' w.heap.size ga ca an∧zZ w' w.heap.size gu cu au∧zZ w' w.heap.size gd cd ad
end Go.Proofs.YtdjjemajfphjaaaGreat
namespace Go.Proofs.YtdjjemajfphjaaaGreat
open Go.RowKit Go.Shelf Go.WideMaps nm od
namespace up
abbrev xh:ByteArray:=⟨#[2,101,120,0]⟩
abbrev asoa:ByteArray:=⟨#[2,110,115,2,101,120,0,1,104,2,101,120,0,0,0,0,1,0,0,0,1,0,0,0,1,0,0,0,1,0,0,0,60]⟩
abbrev ZZ:Rec:=⟨xh,6,1,300,asoa⟩
abbrev Ze:Rec:=⟨xh,2,1,300,⟨#[2,110,115,2,101,120,0]⟩⟩
abbrev Jf:Rec:=⟨⟨#[1,97,2,101,120,0]⟩,1,1,60,⟨#[1,2,3,4]⟩⟩
abbrev asoa2:ByteArray:=⟨#[2,110,115,2,101,120,0,1,104,2,101,120,0,0,0,0,2,0,0,0,1,0,0,0,1,0,0,0,1,0,0,0,60]⟩
abbrev arec4:Rec:=⟨xh,6,1,300,asoa2⟩
abbrev ahd:Hd:=⟨9,false,5,false,false,false,false,false,false,0⟩
theorem a_new:zn.yY xh [ZZ,Ze]=none:=by decide +kernel
theorem a_sorted:zQ [ZZ,Ze] [Ze,ZZ]:=⟨List.Perm.swap _ _ _,by
 rw[List.pairwise_cons]
 refine⟨fun r hr=>?_,List.pairwise_singleton _ _⟩
 rw[List.mem_singleton]at hr
 subst hr
 decide +kernel⟩
theorem a_row:zn.qD [Ze,ZZ] (qm xh,6)= [ZZ]:=by decide +kernel
theorem a_serial:zn.xL asoa=1:=by decide +kernel
theorem a_check:zN xh [Ze,ZZ] ahd [⟨xh,6,1⟩] [] [Jf] []=0:=by decide +kernel
theorem a_out:Yf xh [Ze,ZZ] [Jf]= [Ze,arec4,Jf]:=by decide +kernel
theorem a_new2:zn.yY xh [Ze,arec4,Jf]=none:=by decide +kernel
theorem a_row2:zn.qD [Ze,arec4,Jf] (qm xh,6)= [arec4]:=by decide +kernel
theorem a_serial2:zn.xL asoa2=2:=by decide +kernel
theorem rows_perm {l L:List Rec}(h:l.Perm L)(κ:Key):(zn.qD l κ).Perm (zn.qD L κ):=h.filter _
end up
theorem asmall_any (w:World):Calls Tryz.prog 20 #[] w fun e w'=>∃v,e= .returned v∧Below w.heap.size w w'∧yS v∧qy w' v [up.ZZ,up.Ze]:=by
 go_enter Tryz.func20,Tryz.ntmps20
 go_wp2_with fail
 go_ret
 refine⟨_,rfl,(Below.refl _ w).alloc (Nat.le_refl _) _,.inr ⟨_,_,_,_,rfl⟩,?_⟩
 refine qO (base:=0) ⟨rfl,.inr ⟨w.heap.size,2,_,rfl,Nat.zero_le _,qo rfl,Nat.le_refl _,by unfold maxLen;omega,rfl,rfl⟩⟩
theorem arec_ret {fn:Func}{p:Tmp}(hf:fn.results= #[.cell p 51]){R:Ending→World→Prop}{a:Act}{w:World}{g:Nat}{x:Rec}(hp:a.tmps.getD p undef= .pointer (some ⟨g,0,none⟩))
 (hd:a.defers= []) (hc:w.heap[g]? =some (.cells (recC x).toArray 51 (0,0))) (hR:R (.returned (zB x)) w):bodyPost Tryz.prog fn R .ret a w:=
 bodyPost_ret_by (results_cell_row hf _ w g _ _ _ _ hp hc Tryz.underlying51 rfl rec_size) hd hR
theorem fresh_any (w:World):Calls Tryz.prog 21 #[] w fun e w'=>e= .returned (zB up.Jf)∧Below w.heap.size w w':=by
 obtain⟨w1,hw1⟩:∃X,X=w.alloc (.cells #[.string ⟨#[]⟩,.int .i64 0,.int .i64 0,.int .i64 0,.string ⟨#[]⟩] 51):=⟨_,rfl⟩
 obtain⟨g,hg⟩:∃b,b=w.heap.size:=⟨_,rfl⟩
 have hh:w1.heap[g]? =some (.cells #[.string ⟨#[]⟩,.int .i64 0,.int .i64 0,.int .i64 0,.string ⟨#[]⟩] 51 (0,0)):=by rw[hw1];exact qo hg
 have hB:Below w.heap.size w w1:=by rw[hw1];exact(Below.refl _ w).alloc (Nat.le_refl _) _
 have q0:w1.cell? ⟨g,0,none⟩=some (.string ⟨#[]⟩):=by rw[qg hh];rfl
 have q1:w1.cell? ⟨g,1,none⟩=some (.int .i64 0):=by rw[qg hh];rfl
 have q2:w1.cell? ⟨g,2,none⟩=some (.int .i64 0):=by rw[qg hh];rfl
 have q3:w1.cell? ⟨g,3,none⟩=some (.int .i64 0):=by rw[qg hh];rfl
 have q4:w1.cell? ⟨g,4,none⟩=some (.string ⟨#[]⟩):=by rw[qg hh];rfl
 have f0:=qE hh 0;have f1:=qE hh 1;have f2:=qE hh 2;have f3:=qE hh 3;have f4:=qE hh 4
 obtain⟨e1,e2,-⟩:=fnd_store hh hB (Nat.le_of_eq hg.symm) (.string ⟨#[1,97,2,101,120,0]⟩) (.int .i64 1) (.int .i64 1) (.int .i64 60) (.string ⟨#[1,2,3,4]⟩)
 have HW1:=Lib.hid hw1;have HG:=Lib.hid hg;have E1:=Lib.hid e1;have E2:=Lib.hid e2
 clear hw1 hg hh hB e1 e2
 go_enter Tryz.func21,Tryz.ntmps21
 go_upto_region 1 with fail
 rw[← HW1.out,← HG.out]
 go_wp2_with fail
 exact arec_ret (x:=up.Jf) rfl rfl rfl E1.out ⟨rfl,E2.out⟩
theorem asks_any (top:ByteArray)(a1:Option Addr)(n1 c1:Nat)(a2:Option Addr)(n2 c2:Nat)(w:World):Calls Tryz.prog 18 #[.string top,.slice a1 n1 c1,.slice a2 n2 c2] w fun e w'=>
 ∃g,e= .returned (Yg up.ahd (.slice (some ⟨g,0,none⟩) 1 1) (.slice a1 n1 c1) (.slice a2 n2 c2) (.slice none 0 0))∧Below w.heap.size w w'∧kJ w' (.slice (some ⟨g,0,none⟩) 1 1) [⟨top,6,1⟩]:=by
 obtain⟨w1,hw1⟩:∃X,X=w.alloc (.cells (Yh hd0 (.slice none 0 0) (.slice none 0 0) (.slice none 0 0) (.slice none 0 0)).toArray 25):=⟨_,rfl⟩
 obtain⟨hB1,hs1,hm1⟩:=uJ hw1
 obtain⟨bm,hbm⟩:∃b,b=w.heap.size:=⟨_,rfl⟩
 rw[← hbm]at hm1
 obtain⟨o,ho⟩:∃o:Obj,o= .cells #[.string top,.int .i64 6,.int .i64 1] 63:=⟨_,rfl⟩
 have hB2:Below w1.heap.size w1 (w1.alloc o):=(Below.refl _ w1).alloc (Nat.le_refl _) _
 have hm2:=hm1.below hB2
 obtain⟨g,hg⟩:∃b,b=w1.heap.size:=⟨_,rfl⟩
 have hne:g≠bm:=by have:=hm1.lt;omega
 have hst:=XL hm2 up.ahd (.slice (some ⟨g,0,none⟩) 1 1) (.slice a1 n1 c1) (.slice a2 n2 c2) (.slice none 0 0)
 have hqb:(w1.alloc o).heap[g]? =some (.cells #[.string top,.int .i64 6,.int .i64 1] 63 (0,0)):=by rw[ho];exact qo hg
 have hBB:Below w.heap.size w (w1.alloc o):=hB1.trans (hB2.mono hB1.size)
 have hfin:=hBB.grown hst.2 hBB.size (fun j hj=>by cases hj;exact Nat.le_of_eq hbm.symm)
 have hqf:=(hst.2.block g (qw hqb) (by simpa using hne)).trans hqb
 rw[ho]at hm2 hst hqf hfin
 obtain⟨x0,x1,x2,x3,x4,x5,x6,x7,x8,x9,x10,x11,x12,x13⟩:=hm2.facts
 have f0:=hm2.free 0;have f1:=hm2.free 1;have f2:=hm2.free 2;have f3:=hm2.free 3;have f4:=hm2.free 4;have f5:=hm2.free 5;have f6:=hm2.free 6;have f7:=hm2.free 7;have f8:=hm2.free 8;have f9:=hm2.free 9;have f10:=hm2.free 10;have f11:=hm2.free 11;have f12:=hm2.free 12;have f13:=hm2.free 13
 have HW1:=Lib.hid hw1;have HBM:=Lib.hid hbm;have HST:=Lib.hid hst.1;have HQF:=Lib.hid hqf;have JJ:=Lib.hid hfin;have HGG:=Lib.hid hg
 clear hw1 hB1 hs1 hm1 hbm ho hB2 hm2 hg hne hst hqb hBB hfin hqf
 go_enter Tryz.func18,Tryz.ntmps18
 go_upto_region 1 with fail
 rw[← HW1.out,← HBM.out]
 go_wp2_with fail
 rw[← HGG.out]
 refine msg_ret rfl rfl rfl HST.out ⟨g,rfl,JJ.out,?_⟩
 refine⟨some ⟨g,0,none⟩,1,rfl,Nat.le_refl _,fun k hk=>⟨g,0,rfl,qw HQF.out,?_⟩⟩
 obtain rfl:k=0:=by simpa using hk
 refine⟨?_,?_,?_⟩ <;> (rw[qg HQF.out];rfl)
theorem alive_any (w:World):Calls Tryz.prog 7 #[] w fun e w'=>e= .returned (.bool true)∧Below w.heap.size w w':=by
 go_enter Tryz.func7,Tryz.ntmps7
 go_wp2_with fail
 refine(asmall_any _).mono ?_
 rintro e w1 ⟨v,rfl,hB1,hf,hrv⟩
 have HN:=Lib.hid (both_any up.xh (by decide) [up.ZZ,up.Ze] (fun r hr=>by
  simp only[List.mem_cons,List.not_mem_nil,or_false]at hr
  rcases hr with rfl | rfl <;> rfl) (fun r hr=>by
  simp only[List.mem_cons,List.not_mem_nil,or_false]at hr
  rcases hr with rfl | rfl <;> decide) v hf w1 hrv)
 have HB1:=Lib.hid hB1
 clear hrv hf hB1
 go_wp2_with fail
 refine HN.out.mono ?_
 rintro e w2 ⟨hB2,⟨hx,-⟩|⟨-,z,y,L,hs,rfl,hva,top,hzf,-⟩⟩
 ·exact absurd up.a_new hx
 have hva0:=zn.QC up.a_new
 have hL:L= [up.Ze,up.ZZ]:=hs.eq up.a_sorted (fun r hr=>(hva0.each r hr).1) (zn.V9 (zn.Qa (zn.Q7 hva0.rules)))
 subst hL
 have HB2:=Lib.hid (HB1.out.trans (hB2.mono HB1.out.size));have HZ:=Lib.hid hzf;have HVA:=Lib.hid hva
 clear hB2 hs hzf hva hva0 HN
 go_wp2_with fail
 refine(fresh_any w2).mono ?_
 rintro e w3 ⟨rfl,hB3⟩
 have HB3:=Lib.hid (HB2.out.trans (hB3.mono HB2.out.size));have HZ3:=Lib.hid (HZ.out.kept hB3)
 obtain⟨w4,hw4⟩:∃X,X=w3.alloc (.cells #[.string ⟨#[1,97,2,101,120,0]⟩,.int .i64 1,.int .i64 1,.int .i64 60,.string ⟨#[1,2,3,4]⟩] 51):=⟨_,rfl⟩
 have hB4:Below w3.heap.size w3 w4:=by rw[hw4];exact(Below.refl _ w3).alloc (Nat.le_refl _) _
 have HB4:=Lib.hid (HB3.out.trans (hB4.mono HB3.out.size));have HZ4:=Lib.hid (HZ3.out.kept hB4)
 have HR4:=Lib.hid (show qy w4 (.slice (some ⟨w3.heap.size,0,none⟩) 1 1) [up.Jf] by rw[hw4];exact qO (l:=[up.Jf]) (XG w3 up.Jf))
 have HW4:=Lib.hid hw4
 clear hB3 hB4 hw4
 go_wp2_with fail
 rw[← HW4.out]
 refine(asks_any up.xh none 0 0 (some ⟨w3.heap.size,0,none⟩) 1 1 w4).mono ?_
 rintro e w5 ⟨g5,rfl,hB5,hq5⟩
 have HB5:=Lib.hid (HB4.out.trans (hB5.mono HB4.out.size));have HZ5:=Lib.hid (HZ4.out.kept hB5)
 have HQ5:=Lib.hid hq5;have HR5:=Lib.hid (HR4.out.below hB5)
 have hnil:qy w5 (.slice none 0 0) []:=⟨none,0,rfl,Nat.le_refl _,fun k hk=>absurd hk (Nat.not_lt_zero _)⟩
 have HAP:=Lib.hid (Xn top z up.xh [up.Ze,up.ZZ] HVA.out up.ahd [⟨up.xh,6,1⟩] [] [up.Jf] [] (by decide) (by decide) (by decide) (by decide) (fun _ x hx=>by
  rw[List.mem_singleton]at hx
  subst hx
  exact VF rfl (by decide) (by decide) (by decide +kernel)) _ _ _ _ w5 HZ5.out HQ5.out hnil HR5.out hnil)
 clear hB5 hq5 hnil
 go_wp2_with fail
 refine HAP.out.mono ?_
 rintro e w6 ⟨hB6,⟨hx,-⟩|⟨-,hx,-⟩|⟨-,-,top',z',L',hs',rfl,hzf'⟩⟩
 ·exact absurd up.a_check hx
 ·rw[up.a_out]at hx
  exact absurd up.a_new2 hx
 rw[up.a_out]at hs'
 have hB56:=hB6
 have HB6:=Lib.hid (HB5.out.trans (hB6.mono HB5.out.size));have HZ6:=Lib.hid (HZ5.out.kept hB6);have HY6:=Lib.hid hzf'
 have hlen:L'.length=3:=hs'.1.length_eq
 have hrow:zn.qD L' (qm up.xh,6)= [up.arec4]:=by
  have h1:=up.rows_perm hs'.1 (qm up.xh,6)
  rw[up.a_row2]at h1
  exact List.perm_singleton.1 h1
 have HLEN:=Lib.hid hlen;have yU:=Lib.hid hrow
 clear hB6 hB56 hs' hzf' hlen hrow HAP
 go_wp2_with fail
 refine(uw top' z' up.xh L' (by rw[HLEN.out];decide) w6 HY6.out.v).mono ?_
 rintro e w7 ⟨v7,rfl,hB7,uQ⟩
 obtain⟨va7,vc7,rfl,-⟩:=qC uQ
 rw[HLEN.out]
 have HB7:=Lib.hid (HB6.out.trans (hB7.mono HB6.out.size));have HZ7:=Lib.hid (HZ6.out.kept hB7);have HY7:=Lib.hid (HY6.out.kept hB7)
 clear hB7 uQ
 go_wp2_with fail
 refine(JY top' z' up.xh L' up.arec4 [] yU.out (by decide) w7 HY7.out.v).mono ?_
 rintro e w8 ⟨rfl,hB8⟩
 rw[up.a_serial2]
 have HB8:=Lib.hid (HB7.out.trans (hB8.mono HB7.out.size));have HZ8:=Lib.hid (HZ7.out.kept hB8)
 clear hB8
 go_wp2_with fail
 refine(JY top z up.xh [up.Ze,up.ZZ] up.ZZ [] up.a_row (by decide) w8 HZ8.out.v).mono ?_
 rintro e w9 ⟨rfl,hB9⟩
 rw[up.a_serial]
 have HB9:=Lib.hid (HB8.out.trans (hB9.mono HB8.out.size))
 clear hB9
 go_wp2_with fail
 go_ret
 exact⟨rfl,HB9.out⟩
end Go.Proofs.YtdjjemajfphjaaaGreat
