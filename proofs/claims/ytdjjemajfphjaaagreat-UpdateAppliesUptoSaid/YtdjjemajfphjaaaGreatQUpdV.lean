import Derived.Test.YtdjjemajfphjaaaGreatQUpdU
import Derived.Test.YtdjjemajfphjaaaGreatQStepN
import Derived.Test.YtdjjemajfphjaaaGreatQRzE
import Derived.Laws.EntriesVeiled
import Derived.Deep.CutBlock
set_option maxRecDepth 100000
set_option maxHeartbeats 8000000
namespace Go.Proofs.YtdjjemajfphjaaaGreat
open Go.RowKit Go.Shelf nm od
namespace up
def kU (n:ByteArray)(x y:Rec):Rec:=if yf n y=true∧y.typ=x.typ∧x.typ≠46 then { y with ttl:=x.ttl} else y
def addP (l:List Rec)(x:Rec):List Rec:=
 if(!ja x.typ && l.any fun y=>yf (qm x.owner) y && decide (y.typ=5))=true then l
 else((l.filter fun y=>!uP (zn.zf x) y) ++ [x]).map (kU (qm x.owner) x)
end up
theorem callFunc_add3 (args:Array Value)(w:World):(callFunc 91 args).run Tryz.prog w= .ok (.enter 91 args) w:=by kernel_rfl
theorem JP (args:Array Value)(w:World):(callFunc 92 args).run Tryz.prog w= .ok (.enter 92 args) w:=by kernel_rfl
theorem recsC_ttl (t:Int):∀(l:List Rec) (k:Nat) (h:k<l.length),(qG l).set (k*5+3) (.int .i64 t)=qG (l.set k { l[k]with ttl:=t})
 | [],k,h=>by simp at h
 | a :: r,0,_=>by
   show(recC a ++ qG r).set (0*5+3) _=recC _ ++ qG r
   simp
 | a :: r,k+1,h=>by
   have ih:=recsC_ttl t r k (by simpa using h)
   have e:qG (a :: r)= .string a.owner :: .int .i64 a.typ :: .int .i64 a.cls :: .int .i64 a.ttl :: .string a.data :: qG r:=rfl
   rw[List.set_cons_succ,e,show(k+1)*5+3=k*5+3+1+1+1+1+1 by omega]
   simp only[List.set_cons_succ,List.getElem_cons_succ]
   rw[ih]
   rfl
theorem zR.parts {w:World}{base st:Nat}{qf:ByteArray}{l:List Rec}(h:zR w base st qf l):∃va vc,w.heap[st]? =some (.cells #[.string qf,.slice va l.length vc] 80 (0,0))∧w.ownsRow base 51 5 (.slice va l.length vc) l.length (qG l):=by
 obtain⟨v,h1,h2,h3⟩:=h
 obtain⟨va,vc,rfl,-⟩:=qC h3
 exact⟨va,vc,h1,h3⟩
theorem XG (W:World)(x:Rec):(W.alloc (.cells (recC x).toArray 51)).ownsRow W.heap.size 51 5 (.slice (some ⟨W.heap.size,0,none⟩) 1 1) 1 (recC x):=
 ⟨rfl,.inr ⟨W.heap.size,1,(recC x).toArray,rfl,Nat.le_refl _,qo rfl,Nat.le_refl _,by unfold maxLen;omega,rfl,rfl⟩⟩
theorem own_allU {W:World}{base g c n size:Nat}{e:TypeId}{xs:List Value}(h:W.ownsRow base e size (.slice (some ⟨g,0,none⟩) n c) n xs):∀i u,xs[i]? =some u→W.cell? ((⟨g,0,none⟩:Addr).add i)=some u:=fun i u hu=>by
 have hi:=(List.getElem?_eq_some_iff.1 hu).1
 rw[h.1]at hi
 rw[Addr.add_lit,Nat.zero_add,h.cellAt i hi,hu]
def AppAt (w6 wx:World)(base st:Nat)(qf:ByteArray)(va:Option Addr)(vc:Nat)(M:List Rec)(x:Rec):Prop:=
 ∃g gc,wx.heap[st]? =some (.cells #[.string qf,.slice (some ⟨g,0,none⟩) (M.length+1) gc] 80 (0,0))∧wx.ownsRow base 51 5 (.slice (some ⟨g,0,none⟩) (M.length+1) gc) (M.length+1) (qG M ++ recC x)∧
  Below base w6 wx∧(∀b,b<w6.heap.size→b≠st→(Value.slice va M.length vc).ownBlock≠some b→wx.heap[b]? =w6.heap[b]?)∧(∀b,b<w6.heap.size→(Value.slice va M.length vc).ownBlock≠some b→g≠b)
theorem stock_app {w6 W w7:World}{base st g gc:Nat}{qf:ByteArray}{va:Option Addr}{vc:Nat}{M:List Rec}{x:Rec}(hb:base≤w6.heap.size)(hbs:base≤st)(BA:Below w6.heap.size w6 W)(hrow:W.ownsRow base 51 5 (.slice va M.length vc) M.length (qG M))
 (hr:w7.ownsRow base 51 5 (.slice (some ⟨g,0,none⟩) (M.length+1) gc) (M.length+1) (qG M ++ recC x)) (hg:W.grownBy w7 (Value.slice va M.length vc).ownBlock) (hnn:∀b,(Value.slice (some ⟨g,0,none⟩) (M.length+1) gc).ownBlock=some b→(Value.slice va M.length vc).ownBlock=some b∨W.heap.size≤b)
 (hs:w7.heap[st]? =some (.cells #[.string qf,.slice va M.length vc] 80 (0,0))):AppAt w6 (w7.setCell ⟨st,1,none⟩ (.slice (some ⟨g,0,none⟩) (M.length+1) gc)) base st qf va vc M x:=by
 have hne:=jb hr hs
 have hgst:g≠st:=fun e=>hne (by rw[e];rfl)
 have h7:Below base w6 w7:=(BA.mono hb).grown hg (Nat.le_trans hb BA.size) (fun j hj=>(hrow.lt j hj).1)
 refine⟨g,gc,(qB hs 1 _).trans rfl,?_,h7.setCell (p:=⟨st,1,none⟩) hbs _,fun b hlt hne1 hne2=>?_,fun b hlt hne2=>?_⟩
 ·exact qi hr fun b hb=>Below.heap_setCell _ _ _ _ (by simp only;intro e;exact hne (by rw[hb,e]))
 ·exact(Below.heap_setCell _ _ _ _ (by simp only;exact hne1)).trans ((hg.block b (Nat.lt_of_lt_of_le hlt BA.size) (fun e=>hne2 e.symm)).trans (BA.block b hlt))
 ·intro e
  subst e
  rcases hnn g rfl with h | h
  ·exact hne2 h
  ·have:=BA.size
   omega
structure TtlI (w wb wr:World)(base st bx b4 bn g gc:Nat)(qf n:ByteArray)(x:Rec)(N:List Rec)(j:Nat):Prop where
 stb:wr.heap[st]? =some (.cells #[.string qf,.slice (some ⟨g,0,none⟩) N.length gc] 80 (0,0))
 row:wr.ownsRow base 51 5 (.slice (some ⟨g,0,none⟩) N.length gc) N.length (qG ((N.take j).map (up.kU n x) ++ N.drop j))
 YJ:wr.heap[bx]? =wb.heap[bx]?
 here:uE wr b4 bn n
 below:Below base w wr
theorem TtlI.under {w wb wr wx:World}{base st bx b4 bn g gc:Nat}{qf n:ByteArray}{x:Rec}{N:List Rec}{j:Nat}(h:TtlI w wb wr base st bx b4 bn g gc qf n x N j)(hbx:bx<wr.heap.size)(hb:base≤wr.heap.size)(hB:Below wr.heap.size wr wx):TtlI w wb wx base st bx b4 bn g gc qf n x N j:=
 ⟨(hB.block st (qw h.stb)).trans h.stb,ownsRow_below h.row hB,(hB.block bx hbx).trans h.YJ,h.here.below hB,h.below.trans (hB.mono hb)⟩
theorem ttl_list {n:ByteArray}{x:Rec}{N:List Rec}{j:Nat}(hj:j<N.length):((N.take j).map (up.kU n x) ++ N.drop j).set j (up.kU n x N[j])=(N.take (j+1)).map (up.kU n x) ++ N.drop (j+1):=by
 have hl:((N.take j).map (up.kU n x)).length=j:=by rw[List.length_map,List.length_take];omega
 rw[List.set_append_right _ _ (by omega),hl,Nat.sub_self,List.drop_eq_getElem_cons hj,List.set_cons_zero,List.take_succ_eq_append_getElem hj,List.map_append,List.append_assoc]
 rfl
theorem UG {n:ByteArray}{x:Rec}{N:List Rec}{j:Nat}(hj:j<N.length)(h:j<((N.take j).map (up.kU n x) ++ N.drop j).length):((N.take j).map (up.kU n x) ++ N.drop j)[j]=N[j]:=by
 have hl:((N.take j).map (up.kU n x)).length=j:=by rw[List.length_map,List.length_take];omega
 rw[List.getElem_append_right (by omega),List.getElem_drop]
 simp only[hl,Nat.sub_self,Nat.add_zero]
theorem xJ {n:ByteArray}{x:Rec}{N:List Rec}(j:Nat):((N.take j).map (up.kU n x) ++ N.drop j).length=N.length:=by
 rw[List.length_append,List.length_map,List.length_take,List.length_drop];omega
theorem ttl_same {n:ByteArray}{x y:Rec}{N:List Rec}{j:Nat}(hj:j<N.length)(hy:y=N[j])(hf:¬(yf n y=true∧y.typ=x.typ∧x.typ≠46)):(N.take j).map (up.kU n x) ++ N.drop j=(N.take (j+1)).map (up.kU n x) ++ N.drop (j+1):=by
 subst hy
 have hF:up.kU n x N[j]=N[j]:=by unfold up.kU;exact if_neg hf
 have hlen:j<((N.take j).map (up.kU n x) ++ N.drop j).length:=by rw[xJ];exact hj
 have hat:=UG (n:=n) (x:=x) hj hlen
 rw[← ttl_list hj,hF,← hat]
 exact(List.set_getElem_self hlen).symm
theorem ttl_next {n:ByteArray}{x y:Rec}{N:List Rec}{j:Nat}(hj:j<N.length)(hy:y=N[j])(hf:yf n y=true∧y.typ=x.typ∧x.typ≠46):((N.take j).map (up.kU n x) ++ N.drop j).set j { y with ttl:=x.ttl}=(N.take (j+1)).map (up.kU n x) ++ N.drop (j+1):=by
 subst hy
 rw[← ttl_list hj]
 congr 1
 unfold up.kU
 exact(if_pos hf).symm
theorem ttl_store {w wb wr:World}{base st bx b4 bn g gc:Nat}{qf n:ByteArray}{x y:Rec}{N:List Rec}{j:Nat}(h:TtlI w wb wr base st bx b4 bn g gc qf n x N j)(hj:j<N.length)(hy:y=N[j])(hf:yf n y=true∧y.typ=x.typ∧x.typ≠46)
 (hg:g≠bx∧g≠b4∧g≠bn∧g≠st):TtlI w wb (wr.setCell ⟨g,j*5+3,none⟩ (.int .i64 x.ttl)).drew base st bx b4 bn g gc qf n x N (j+1):=by
 have hne:∀b,b≠g→(wr.setCell ⟨g,j*5+3,none⟩ (.int .i64 x.ttl)).heap[b]? =wr.heap[b]?:=fun b hb=>Below.heap_setCell _ _ _ _ (by simp only;exact hb)
 have hlen:j<((N.take j).map (up.kU n x) ++ N.drop j).length:=by rw[xJ];exact hj
 obtain⟨h1,_⟩:=h.row.stored (j*5+3) (.int .i64 x.ttl)
 have e:(qG ((N.take j).map (up.kU n x) ++ N.drop j)).set (j*5+3) (.int .i64 x.ttl)=qG ((N.take (j+1)).map (up.kU n x) ++ N.drop (j+1)):=by
  rw[recsC_ttl x.ttl _ j hlen,UG hj hlen,← hy,ttl_next hj hy hf]
 rw[e]at h1
 have hsz:(wr.setCell ⟨g,j*5+3,none⟩ (.int .i64 x.ttl)).heap.size=wr.heap.size:=by simp[World.setCell]
 refine⟨(hne st (Ne.symm hg.2.2.2)).trans h.stb,h1,(hne bx (Ne.symm hg.1)).trans h.YJ,⟨(World.cell?_of_block (a:=⟨b4,0,none⟩) (hne b4 (Ne.symm hg.2.1))).trans h.here.1,(World.cell?_of_block (a:=⟨bn,0,none⟩) (hne bn (Ne.symm hg.2.2.1))).trans h.here.2.1,?_,?_⟩,(h.below.setCell (p:=⟨g,j*5+3,none⟩) (h.row.lt g rfl).1 _).drew⟩
 ·show b4<(wr.setCell ⟨g,j*5+3,none⟩ (.int .i64 x.ttl)).heap.size
  rw[hsz];exact h.here.2.2.1
 ·show bn<(wr.setCell ⟨g,j*5+3,none⟩ (.int .i64 x.ttl)).heap.size
  rw[hsz];exact h.here.2.2.2
theorem add_any (x:Rec)(hx1:x.cls=1)(hx5:x.typ≠5)(hx6:x.typ≠6)(base st:Nat)(qf:ByteArray)(l:List Rec)(hl:l.length≤1000000000)(w:World)(hb:base≤w.heap.size)(hs:zR w base st qf l):
 Calls Tryz.prog 41 #[.pointer (some ⟨st,0,none⟩),zB x] w fun e w'=>xI w base st qf (up.addP l x) e w':=by
 have hmf:∀(fn:Fn) (first cap:Array Value) (w:World),(Instr.makeFunc fn first cap).run Tryz.prog w= .ok (.func fn first cap) w:=fun _ _ _ _=>rfl
 obtain⟨kX,uz,uy,jd,jc⟩:=info_parts jM
 have kZ:=Lib.hid uz;have kY:=Lib.hid uy;have yK:=Lib.hid jd;have yJ:=Lib.hid jc
 clear uz uy jd jc
 obtain⟨wa,hwa⟩:∃W,W=w.alloc (.cells (recC x).toArray 51):=⟨_,rfl⟩
 obtain⟨hBa,hsa,hxa⟩:=qM w wa x hwa
 obtain⟨bx,hbx⟩:∃b,b=w.heap.size:=⟨_,rfl⟩
 have hha:wa.heap[bx]? =some (.cells (recC x).toArray 51 (0,0)):=by rw[hwa];exact qo hbx
 obtain⟨wb,hwb⟩:∃W,W=wa.setCell ⟨bx,2,none⟩ (.int .i64 1):=⟨_,rfl⟩
 have hhb:wb.heap[bx]? =some (.cells (recC x).toArray 51 (0,0)):=by
  rw[hwb]
  refine(qB hha 2 (.int .i64 1)).trans ?_
  rw[show(recC x).toArray.setIfInBounds 2 (.int .i64 1)=(recC x).toArray by
   show(#[.string x.owner,.int .i64 x.typ,.int .i64 1,.int .i64 x.ttl,.string x.data]:Array Value)= #[.string x.owner,.int .i64 x.typ,.int .i64 x.cls,.int .i64 x.ttl,.string x.data]
   rw[hx1]]
 have hBb:Below w.heap.size w wb:=by rw[hwb];exact hBa.setCell (p:=⟨bx,2,none⟩) (by rw[hbx];exact Nat.le_refl _) _
 have hsb:wb.heap.size=w.heap.size+1:=by rw[hwb];simpa[World.setCell] using hsa
 have xa2:wa.cell? ⟨bx,2,none⟩=some (.int .i64 x.cls):=by rw[qg hha];rfl
 have xf2:wa.frozen? ⟨bx,2,none⟩=false:=qE hha 2
 have hrec:∀X:World,X.heap[bx]? =wb.heap[bx]?→QT X bx 0 x:=fun X hX=>by
  have h:=hX.trans hhb
  refine⟨?_,?_,?_,?_,?_⟩ <;> (rw[qg h];rfl)
 obtain⟨x0,x1,x2,x3,x4⟩:=hrec wb rfl
 have zU:bx<wb.heap.size:=by omega
 have HWA:=Lib.hid hwa;have HWB:=Lib.hid hwb;have HBX:=Lib.hid hbx;have HBB:=Lib.hid hBb;have Qv:=Lib.hid hrec;have yH:=Lib.hid zU;have HBL:=Lib.hid hb
 have HST:=Lib.hid (hs.below hBb)
 have HS0:=Lib.hid hs
 have d6:(x.typ == 6)=false:=by rw[beq_eq_false_iff_ne];exact hx6
 have d5:(x.typ == 5)=false:=by rw[beq_eq_false_iff_ne];exact hx5
 obtain⟨n,hn⟩:∃n,n=qm x.owner:=⟨_,rfl⟩
 have HN:=Lib.hid hn
 clear hwa hwb hBa hsa hxa hbx hha hhb hBb hsb hrec zU hb hs hn hx5 hx6 hx1
 go_enter Tryz.func41,Tryz.ntmps41
 go_upto_region 1 with fail
 rw[← HWA.out,← HBX.out]
 go_upto_region 2 with fail
 rw[← HWB.out]
 clear xa2 xf2
 go_wp2_with fail
 refine(Xe x.owner wb).mono ?_
 rintro e w1 ⟨rfl,hB1,hcn,hln⟩
 rw[← HN.out]at hcn
 obtain⟨bn,hbn⟩:∃b,b=wb.heap.size:=⟨_,rfl⟩
 rw[← hbn]at hcn hln ⊢
 obtain⟨w2,hw2⟩:∃X,X=w1.alloc (.cells #[.func (.func 142) #[] #[.pointer (some ⟨bn,0,none⟩)]] 114):=⟨_,rfl⟩
 have hB2:Below w1.heap.size w1 w2:=by rw[hw2];exact(Below.refl _ w1).alloc (Nat.le_refl _) _
 have hs2:w2.heap.size=w1.heap.size+1:=by rw[hw2,World.size_alloc]
 obtain⟨b4,hb4⟩:∃b,b=w1.heap.size:=⟨_,rfl⟩
 have hc4:w2.cell? ⟨b4,0,none⟩=some (.func (.func 142) #[] #[.pointer (some ⟨bn,0,none⟩)]):=by rw[hw2,qg (qo hb4)];rfl
 have K8:Below wb.heap.size wb w2:=hB1.trans (hB2.mono hB1.size)
 have Y9:uE w2 b4 bn n:=⟨hc4,(hB2.cell (p:=⟨bn,0,none⟩) hln).trans hcn,by omega,by omega⟩
 obtain⟨y0,y1,y2,y3,y4⟩:=Qv.out w2 (K8.block bx yH.out)
 have HW2:=Lib.hid hw2;have HB4:=Lib.hid hb4;have V7:=Lib.hid K8;have HERE:=Lib.hid Y9
 have HST2:=Lib.hid (HST.out.below K8)
 have HNE:=Lib.hid (show bn≠st∧b4≠st∧bx≠st from by
  have h1:=HST.out.lt
  have h2:=HS0.out.lt
  have h3:=hB1.size
  have h4:=HBX.out
  have h5:=HBB.out.size
  omega)
 have HBN:=Lib.hid hbn
 clear hB1 hcn hln hw2 hB2 hs2 hb4 hc4 K8 Y9 hbn x0 x1 x2 x3 x4
 go_upto_region 3 with fail
 rw[← HW2.out,← HB4.out]
 obtain⟨bb,hbb⟩:∃bb,bb=up.ja x.typ:=⟨_,rfl⟩
 obtain⟨ab,hab⟩:∃ab,ab=l.any fun y=>yf n y && decide (y.typ=5):=⟨_,rfl⟩
 obtain⟨tb,htb⟩:∃tb,tb=(!bb && ab):=⟨_,rfl⟩
 have HBB2:=Lib.hid hbb;have HAB:=Lib.hid hab;have HTB:=Lib.hid htb
 have hadd:up.addP l x=if tb=true then l else((l.filter fun y=>!uP (zn.zf x) y) ++ [x]).map (up.kU n x):=by
  unfold up.addP
  rw[← HN.out,htb,hbb,hab]
 have HADD:=Lib.hid hadd
 clear hbb hab htb hadd
 go_upto_region 13 with fail
 go_cut [67] (fun t wx=>t= .bool tb∧Below w2.heap.size w2 wx)
 case first=>
  go_wp2_with fail
  refine(beside_any _ _).mono ?_
  rintro e w3 ⟨rfl,rfl⟩
  rw[← HBB2.out]
  cases bb
  ·go_wp2_with fail
   refine(any_any_ 91 #[.pointer (some ⟨b4,0,none⟩)] callFunc_add3 (fun y=>yf n y && decide (y.typ=5)) base st qf l hl w2 HST2.out (fun r _ X hX=>add3_any r b4 bn n X (HERE.out.below hX))).mono ?_
   rintro e w3 ⟨rfl,hB3⟩
   rw[← HAB.out]
   have HB3:=Lib.hid hB3
   clear hB3
   go_wp2_with fail
   go_meet
   exact⟨by rw[HTB.out];rfl,HB3.out⟩
  ·go_wp2_with fail
   go_meet
   exact⟨by rw[HTB.out];rfl,Below.refl _ _⟩
 case rest=>
  obtain⟨rfl,hB3⟩:=hcut
  obtain⟨w3,hw3⟩:∃X:World,X=wc:=⟨_,rfl⟩
  subst hw3
  have HX3:=Lib.hid (V7.out.trans (hB3.mono V7.out.size))
  have HST3:=Lib.hid (HST2.out.below hB3)
  have HERE3:=Lib.hid (HERE.out.below hB3)
  clear hB3 y0 y1 y2 y3 y4
  have HW3:=Lib.hid (HBB.out.trans (HX3.out.mono HBB.out.size))
  cases tb
  ·obtain⟨y0,y1,y2,y3,y4⟩:=Qv.out w3 (HX3.out.block bx yH.out)
   obtain⟨⟨f0,f1,f2⟩,hf⟩:∃f,f=zn.zf x:=⟨_,rfl⟩
   have HF:=Lib.hid hf
   have CK:=Lib.hid (show Calls Tryz.prog 31 #[zB x] w3 fun e w'=>e= .returned (.agg #[.string f0,.int .i64 f1,.string f2])∧Below w3.heap.size w3 w' by have h:=xN x w3;rw[← hf]at h;exact h)
   clear hf
   go_upto_region 14 with fail
   go_wp2_with fail
   refine CK.out.mono ?_
   rintro e w4 ⟨rfl,hB4⟩
   obtain⟨w5,hw5⟩:∃X,X=w4.alloc (.cells #[.string f0,.int .i64 f1,.string f2] 72):=⟨_,rfl⟩
   obtain⟨b7,hb7⟩:∃b,b=w4.heap.size:=⟨_,rfl⟩
   have hB5:Below w4.heap.size w4 w5:=by rw[hw5];exact(Below.refl _ w4).alloc (Nat.le_refl _) _
   have hs5:w5.heap.size=w4.heap.size+1:=by rw[hw5,World.size_alloc]
   have hh5:w5.heap[b7]? =some (.cells #[.string f0,.int .i64 f1,.string f2] 72 (0,0)):=by rw[hw5];exact qo hb7
   have Q9:Zu w5 b7 (f0,f1,f2):=by refine⟨?_,?_,?_,by omega⟩ <;> (rw[qg hh5];rfl)
   have h35:Below w3.heap.size w3 w5:=hB4.trans (hB5.mono hB4.size)
   have HX5:=Lib.hid (HX3.out.trans (h35.mono HX3.out.size))
   have Ji:=Lib.hid (HST3.out.below h35)
   have HERE5:=Lib.hid (HERE3.out.below h35)
   have HW5:=Lib.hid hw5;have Ur:=Lib.hid Q9;have HB7:=Lib.hid hb7
   have HWW5:=Lib.hid (HBB.out.trans (HX5.out.mono HBB.out.size))
   clear hB4 hw5 hB5 hs5 hh5 Q9 h35 hb7 y0 y1 y2 y3 y4
   go_upto_region 15 with fail
   rw[← HW5.out,← HB7.out]
   go_wp2_with fail
   refine(xD 92 #[.pointer (some ⟨b7,0,none⟩)] JP (uP (f0,f1,f2)) base st qf l hl w5 Ji.out (fun r _ X hX=>add4_any r b7 (f0,f1,f2) X (Ur.out.below hX))).mono ?_
   rintro e w6 ⟨rfl,⟨v6,Qi,jm⟩,hg6⟩
   obtain⟨M,hM⟩:∃M,M=l.filter fun y=>!uP (f0,f1,f2) y:=⟨_,rfl⟩
   rw[← hM]at jm
   have hMl:M.length≤l.length:=by rw[hM];exact List.length_filter_le _ _
   have HM:=Lib.hid hM
   have hbs:=Ji.out.kI
   obtain⟨va,vc,rfl,-⟩:=qC jm
   have HVA:=Lib.hid (fun b (hb:(Value.slice va M.length vc).ownBlock=some b)=>(jm.lt b hb).1)
   have jm:=yj jm (Nat.le_trans HBL.out HWW5.out.size)
   have Ut:=Lib.hid (HERE5.out.keep hg6 HNE.out.2.1 HNE.out.1)
   have HK6:=Lib.hid (show w6.heap[bx]? =wb.heap[bx]? from(hg6.block bx (Nat.lt_of_lt_of_le yH.out HX5.out.size) (by simpa using HNE.out.2.2)).trans (HX5.out.block bx yH.out))
   have HBE6:=Lib.hid (show Below base w w6 from(HWW5.out.mono HBL.out).grown hg6 (Nat.le_trans HBL.out HWW5.out.size) (fun j hj=>by cases hj;exact hbs))
   obtain⟨y0,y1,y2,y3,y4⟩:=Qv.out w6 HK6.out
   have c1:w6.cell? ⟨st,1,none⟩=some (.slice va M.length vc):=by rw[qg Qi];rfl
   have c1b:(w6.alloc (.cells #[.string x.owner,.int .i64 x.typ,.int .i64 x.cls,.int .i64 x.ttl,.string x.data] 51)).cell? ⟨st,1,none⟩=some (.slice va M.length vc):=(World.cell?_of_block (a:=⟨st,1,none⟩) (Below.heap_alloc w6 _ st (qw Qi))).trans c1
   have HSB6:=Lib.hid Qi;have HROW6:=Lib.hid jm;have HBS:=Lib.hid hbs
   have HSZ:=Lib.hid (show w.heap.size≤w6.heap.size∧base≤w6.heap.size from⟨Nat.le_trans HWW5.out.size hg6.size,Nat.le_trans HBL.out (Nat.le_trans HWW5.out.size hg6.size)⟩)
   have BA:=Lib.hid ((Below.refl w6.heap.size w6).drew.alloc (Nat.le_refl _) (.cells (recC x).toArray 51))
   have NEW:=Lib.hid (show(w6.drew.alloc (.cells (recC x).toArray 51)).ownsRow w6.heap.size 51 5 (.slice (some ⟨w6.heap.size,0,none⟩) 1 1) 1 (recC x) from XG w6.drew x)
   have S7:=Lib.hid (show ∀u∈recC x,u.oneCell'=true from fun u hu=>YT [x] u (by simpa[qG] using hu))
   have YF:=Lib.hid (ownsRow_below jm BA.out)
   have HSBA:=Lib.hid ((BA.out.block st (qw Qi)).trans Qi)
   have HG6:=Lib.hid hg6.size
   clear hg6 hM Qi jm hbs
   have HSTL:=Lib.hid (show st<w6.heap.size from qw HSB6.out)
   go_upto_region 16 with fail
   go_cut [7] (fun v wx=>v= .pointer (some ⟨b7,0,none⟩)∧AppAt w6 wx base st qf va vc M x)
   case first=>
    go_region_law (refine Yw rfl (.tmp 86) (.tmp 88) 22 rfl base 51 kX (.agg #[.string ⟨#[]⟩,.int .i64 0,.int .i64 0,.int .i64 0,.string ⟨#[]⟩]) 5 56 Tryz.underlying22 kZ.out kY.out yK.out yJ.out rfl (by decide) (.slice va M.length vc) M.length (qG M) (by simp[Act.eval]) YF.out ⟨w6.heap.size,0,none⟩ 1 1 (recC x) (by simp[Act.eval]) rfl (own_allU NEW.out) S7.out (by unfold maxLen;omega) (by omega) (Nat.le_trans HSZ.out.2 BA.out.size) ?_;intro v7 w7 uQ hg7 hnn7;obtain⟨g,gc,rfl,hgb,hgl⟩:=uQ.form (by omega);have hsb7:=(hg7.block st (qw HSBA.out) (fun e=>jb YF.out HSBA.out e.symm)).trans HSBA.out;have k1:w7.cell? ⟨st,1,none⟩=some (.slice va M.length vc):=(by rw[qg hsb7];rfl);have k2:w7.frozen? ⟨st,1,none⟩=false:=qE hsb7 1)
    all_goals
     have HAP:=Lib.hid (stock_app HSZ.out.2 HBS.out BA.out YF.out uQ hg7 hnn7 hsb7)
     clear uQ hg7 hnn7 hsb7 k1 k2
     go_wp2_with fail
     go_meet
     exact⟨rfl,HAP.out⟩
   case rest=>
    obtain⟨rfl,g,gc,X0,ZL,hB8,hk8,hg8⟩:=hcut
    obtain⟨w8,hw8⟩:∃X:World,X=wc:=⟨_,rfl⟩
    subst hw8
    obtain⟨N,hN⟩:∃N,N=M ++ [x]:=⟨_,rfl⟩
    have hNl:M.length+1=N.length:=by rw[hN,List.length_append,List.length_singleton]
    have hvne:∀b,b<w5.heap.size→(Value.slice va M.length vc).ownBlock≠some b:=fun b hb e=>by have:=HVA.out b e;omega
    have hl5:bx<w5.heap.size∧bn<w5.heap.size∧b4<w5.heap.size:=⟨Nat.lt_of_lt_of_le yH.out HX5.out.size,HERE5.out.2.2.2,HERE5.out.2.2.1⟩
    have h56:=HG6.out
    have hk:∀b,b<w5.heap.size→b≠st→w8.heap[b]? =w6.heap[b]?:=fun b hb hne=>hk8 b (by omega) hne (hvne b hb)
    have hgn:∀b,b<w5.heap.size→g≠b:=fun b hb=>hg8 b (by omega) (hvne b hb)
    rw[hNl]at X0 ZL
    have ZL:w8.ownsRow base 51 5 (.slice (some ⟨g,0,none⟩) N.length gc) N.length (qG ((N.take 0).map (up.kU n x) ++ N.drop 0)):=by
     have e:qG ((N.take 0).map (up.kU n x) ++ N.drop 0)=qG M ++ recC x:=by rw[hN];simp[zq]
     rw[e];exact ZL
    have hh8:uE w8 b4 bn n:=⟨(World.cell?_of_block (a:=⟨b4,0,none⟩) (hk b4 hl5.2.2 HNE.out.2.1)).trans Ut.out.1,(World.cell?_of_block (a:=⟨bn,0,none⟩) (hk bn hl5.2.1 HNE.out.1)).trans Ut.out.2.1,Nat.lt_of_lt_of_le Ut.out.2.2.1 hB8.size,Nat.lt_of_lt_of_le Ut.out.2.2.2 hB8.size⟩
    have hT0:TtlI w wb w8 base st bx b4 bn g gc qf n x N 0:=⟨X0,ZL,(hk bx hl5.1 HNE.out.2.2).trans HK6.out,hh8,HBE6.out.trans hB8⟩
    have HT0:=Lib.hid hT0
    have HGN:=Lib.hid (show g≠bx∧g≠b4∧g≠bn∧g≠st from⟨hgn bx hl5.1,hgn b4 hl5.2.2,hgn bn hl5.2.1,fun e=>jb ZL X0 (by rw[e];rfl)⟩)
    have HSZ8:=Lib.hid (show bx<w8.heap.size∧base≤w8.heap.size from⟨Nat.lt_of_lt_of_le hl5.1 (Nat.le_trans h56 hB8.size),Nat.le_trans HSZ.out.2 hB8.size⟩)
    have HNN:=Lib.hid hN
    have hNb:N.length≤1000000001:=by omega
    have c8:w8.cell? ⟨st,1,none⟩=some (.slice (some ⟨g,0,none⟩) N.length gc):=by rw[qg X0];rfl
    clear hN hvne hl5 h56 hk hgn hh8 hT0 X0 ZL hB8 hk8 hg8 y0 y1 y2 y3 y4 c1 c1b
    go_wp2_with fail
    clear c8
    go_loopw [97,8] (fun jv _ wr=>∃j:Nat,j≤N.length∧jv= .int .i64 (j:Int)∧Hid (TtlI w wb wr base st bx b4 bn g gc qf n x N j∧w8.heap.size≤wr.heap.size)) (fun jv _ _=>N.length-(intOf jv).toNat)
    case atStart=>exact⟨0,Nat.zero_le _,rfl,Lib.hid ⟨HT0.out,Nat.le_refl _⟩⟩
    case round=>
     obtain⟨j,hj,rfl,HJ⟩:=hrel
     obtain⟨w9,hw9⟩:∃X:World,X=wr:=⟨_,rfl⟩
     subst hw9
     by_cases hlt:j<N.length
     ·have hji:(j:Int)<(N.length:Int):=by omega
      have hlen:=xJ (n:=n) (x:=x) (N:=N) j
      have Y6:qy w9 (.slice (some ⟨g,0,none⟩) N.length gc) ((N.take j).map (up.kU n x) ++ N.drop j):=qO (by rw[hlen];exact HJ.out.1.row)
      obtain⟨hgl,c0,c1,c2,c3,c4⟩:=zo Y6 (j:=j) (by rw[hlen];exact hlt)
      have hat:=UG (n:=n) (x:=x) hlt (by rw[hlen];exact hlt)
      obtain⟨y,hy⟩:∃y,y=N[j]:=⟨_,rfl⟩
      rw[← hy]at hat
      rw[hat]at c0 c1 c2 c3 c4
      simp only[Nat.zero_add]at c0 c1 c2 c3 c4
      obtain⟨wy,hwy⟩:∃W,W=w9.alloc (.cells (recC y).toArray 51):=⟨_,rfl⟩
      obtain⟨hBy,hsy,hyy⟩:=qM w9 wy y hwy
      obtain⟨by_,hby⟩:∃b,b=w9.heap.size:=⟨_,rfl⟩
      rw[← hby]at hyy
      have vW:by_<wy.heap.size:=by omega
      have hsz9:bx<w9.heap.size∧base≤w9.heap.size:=⟨Nat.lt_of_lt_of_le HSZ8.out.1 HJ.out.2,Nat.le_trans HSZ8.out.2 HJ.out.2⟩
      have HTY:=Lib.hid (HJ.out.1.under hsz9.1 hsz9.2 hBy)
      have hszy:bx<wy.heap.size∧base≤wy.heap.size:=by omega
      obtain⟨h4,hn4,l4,ln4⟩:=id HTY.out.here
      have CA:=Lib.hid (ZY y bn n wy ln4 hn4)
      have hcf:=uM
      obtain⟨x0,x1,x2,x3,x4⟩:=Qv.out wy HTY.out.YJ
      obtain⟨y0,y1,y2,y3,y4⟩:=id hyy
      obtain⟨hb,hhb⟩:∃hb,hb=yf n y:=⟨_,rfl⟩
      obtain⟨tb,htb⟩:∃tb,tb=decide (yf n y=true∧y.typ=x.typ∧x.typ≠46):=⟨_,rfl⟩
      have HTB:=Lib.hid htb;have HHB:=Lib.hid hhb;have HYY:=Lib.hid hyy;have QX:=Lib.hid vW;have HWY:=Lib.hid hwy;have HBY:=Lib.hid hby;have HY:=Lib.hid hy;have HSZY:=Lib.hid hszy;have HSY:=Lib.hid (show w8.heap.size≤wy.heap.size by have:=HJ.out.2;omega)
      have HLT:=Lib.hid hlt
      clear hlen Y6 hgl hat hwy hBy hsy hyy hby vW hsz9 hszy hn4 l4 ln4 hhb htb hy
      go_upto_region 20 with fail
      rw[← HWY.out,← HBY.out]
      clear c0 c1 c2 c3 c4
      go_cut [116] (fun t wx=>t= .bool tb∧Below wy.heap.size wy wx)
      case first=>
       go_wp2_with fail
       refine CA.out.mono ?_
       rintro e w10 ⟨rfl,jo⟩
       rw[← HHB.out]
       obtain⟨z0,z1,z2,z3,z4⟩:=Qv.out w10 ((jo.block bx HSZY.out.1).trans HTY.out.YJ)
       obtain⟨u0,u1,u2,u3,u4⟩:=HYY.out.keep (jo.block by_ QX.out)
       have zw:=Lib.hid jo
       clear jo x0 x1 x2 x3 x4 y0 y1 y2 y3 y4
       cases hb
       ·have HE:=Lib.hid (show tb=false by rw[HTB.out,← HHB.out];simp)
        go_wp2_with fail
        go_meet
        exact⟨by rw[HE.out],zw.out⟩
       ·by_cases k1:y.typ=x.typ
        ·have d1:(y.typ == x.typ)=true:=by rw[beq_iff_eq];exact k1
         by_cases k2:x.typ=46
         ·have d2:(x.typ != 46)=false:=by rw[bne_eq_false_iff_eq];exact k2
          have HE:=Lib.hid (show tb=false by rw[HTB.out];simp[k2])
          clear k1 k2
          go_wp2_with fail
          go_meet
          exact⟨by rw[HE.out],zw.out⟩
         ·have d2:(x.typ != 46)=true:=by rw[bne_iff_ne];exact k2
          have HE:=Lib.hid (show tb=true by rw[HTB.out,← HHB.out];simp[k1,k2])
          clear k1 k2
          go_wp2_with fail
          go_meet
          exact⟨by rw[HE.out],zw.out⟩
        ·have d1:(y.typ == x.typ)=false:=by rw[beq_eq_false_iff_ne];exact k1
         have HE:=Lib.hid (show tb=false by rw[HTB.out];simp[k1])
         clear k1
         go_wp2_with fail
         go_meet
         exact⟨by rw[HE.out],zw.out⟩
      case rest=>
       obtain⟨rfl,jo⟩:=hcut
       obtain⟨w10,hw10⟩:∃X:World,X=wc:=⟨_,rfl⟩
       subst hw10
       have Qc:=Lib.hid (HTY.out.under HSZY.out.1 HSZY.out.2 jo)
       have HS10:=Lib.hid (Nat.le_trans HSY.out jo.size)
       clear jo x0 x1 x2 x3 x4 y0 y1 y2 y3 y4 h4
       cases tb
       ·have HL:=Lib.hid (ttl_same (n:=n) (x:=x) HLT.out HY.out (of_decide_eq_false HTB.out.symm))
        go_wp2_with fail
        go_roundw
        case rel=>exact⟨j+1,by omega,by go_num,Lib.hid ⟨⟨Qc.out.stb,by rw[← HL.out];exact Qc.out.row,Qc.out.YJ,Qc.out.here,Qc.out.below⟩,HS10.out⟩⟩
        case measure=>simp[intOf];omega
       ·have HNT:=Lib.hid (ttl_store Qc.out HLT.out HY.out (of_decide_eq_true HTB.out.symm) ⟨HGN.out.1,HGN.out.2.1,HGN.out.2.2.1,HGN.out.2.2.2⟩)
        have HNS:=Lib.hid (show w8.heap.size≤(w10.setCell ⟨g,j*5+3,none⟩ (.int .i64 x.ttl)).drew.heap.size by
         show w8.heap.size≤(w10.setCell ⟨g,j*5+3,none⟩ (.int .i64 x.ttl)).heap.size
         simpa[World.setCell] using HS10.out)
        obtain⟨z0,z1,z2,z3,z4⟩:=Qv.out w10 Qc.out.YJ
        have c1:w10.cell? ⟨st,1,none⟩=some (.slice (some ⟨g,0,none⟩) N.length gc):=by rw[qg Qc.out.stb];rfl
        have J8:=Qc.out.row
        have k1:w10.cell? ⟨g,j*5+3,none⟩=some (.int .i64 y.ttl):=by
         have hrc:qy w10 (.slice (some ⟨g,0,none⟩) N.length gc) ((N.take j).map (up.kU n x) ++ N.drop j):=qO (by rw[xJ];exact J8)
         obtain⟨_,_,_,_,d3,_⟩:=zo hrc (j:=j) (by rw[xJ];exact HLT.out)
         rw[UG HLT.out (by rw[xJ];exact HLT.out),← HY.out]at d3
         simpa using d3
        have k2:w10.frozen? ⟨g,j*5+3,none⟩=false:=J8.frozenAt _
        clear J8
        go_upto_region 21 with fail
        go_region
        clear z0 z1 z2 z3 z4 c1 k1 k2
        go_wp2_with fail
        go_roundw
        case rel=>exact⟨j+1,by omega,by go_num,Lib.hid ⟨HNT.out,HNS.out⟩⟩
        case measure=>simp[intOf];omega
     ·obtain rfl:j=N.length:=by omega
      clear hlt
      go_wp2_with fail
      go_end0
      have hA:up.addP l x=N.map (up.kU n x):=by
       have h:=HADD.out
       (try simp only[Bool.false_eq_true,if_false]at h)
       rw[h,HNN.out,HM.out,HF.out]
      have hrow:=HJ.out.1.row
      rw[List.take_length,List.drop_length,List.append_nil]at hrow
      rw[hA]
      exact⟨rfl,⟨_,HJ.out.1.stb,HBS.out,by rw[List.length_map];exact hrow⟩,HJ.out.1.below⟩
  ·go_wp2_with fail
   go_end0
   exact⟨rfl,by rw[HADD.out];simpa using HST3.out,HW3.out.mono HBL.out⟩
end Go.Proofs.YtdjjemajfphjaaaGreat
