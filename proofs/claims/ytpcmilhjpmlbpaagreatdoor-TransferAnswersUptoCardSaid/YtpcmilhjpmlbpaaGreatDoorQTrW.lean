import Derived.Test.YtpcmilhjpmlbpaaGreatDoorQMsgC
import Derived.Test.YtpcmilhjpmlbpaaGreatDoorQMsgB
import Derived.Test.YtpcmilhjpmlbpaaGreatDoorQTrA
set_option maxRecDepth 100000
set_option maxHeartbeats 8000000
namespace Go.Proofs.YtpcmilhjpmlbpaaGreatDoor
open nm
structure Rul where
 name:ByteArray
 below:Bool
 kind:Int
 typ:Int
 ttl:Int
 data:ByteArray
 deriving DecidableEq,Inhabited
namespace pf
def qR (r:Rul):Bool:=qo r.name && decide (0≤r.kind) && decide (r.kind≤4) && (!decide (r.kind=4) || decide (dt.jd r.typ r.data=0) && decide (0≤r.ttl) && decide (r.ttl≤2147483647))
end pf
open Go.RowKit Go.Shelf od
def RulAt (w:World)(b off:Nat)(r:Rul):Prop:=
 w.cell? ⟨b,off,none⟩=some (.string r.name)∧w.cell? ⟨b,off+1,none⟩=some (.bool r.below)∧w.cell? ⟨b,off+2,none⟩=some (.int .i64 r.kind)∧
 w.cell? ⟨b,off+3,none⟩=some (.int .i64 r.typ)∧w.cell? ⟨b,off+4,none⟩=some (.int .i64 r.ttl)∧w.cell? ⟨b,off+5,none⟩=some (.string r.data)
def RulsAt (w:World)(v:Value)(l:List Rul):Prop:=
 ∃a cap,v= .slice a l.length cap∧l.length≤cap∧∀k (hk:k<l.length),∃b off,a=some ⟨b,off,none⟩∧b<w.heap.size∧RulAt w b (off+k*6) l[k]
theorem RulAt.keep {w w':World}{b off:Nat}{r:Rul}(h:RulAt w b off r)(hk:w'.heap[b]? =w.heap[b]?):RulAt w' b off r:=by
 have e:∀i,w'.cell? ⟨b,i,none⟩=w.cell? ⟨b,i,none⟩:=fun i=>World.cell?_of_block (w:=w) (a:=⟨b,i,none⟩) hk;exact⟨(e _).trans h.1,(e _).trans h.2.1,(e _).trans h.2.2.1,(e _).trans h.2.2.2.1,(e _).trans h.2.2.2.2.1,(e _).trans h.2.2.2.2.2⟩
theorem RulsAt.below {w w':World}{v:Value}{l:List Rul}(h:RulsAt w v l)(hb:Below w.heap.size w w'):RulsAt w' v l:=by
 obtain⟨a,cap,hv,hc,hr⟩:=h;refine⟨a,cap,hv,hc,fun k hk=>?_⟩;obtain⟨b,off,ha,hbl,hra⟩:=hr k hk;exact⟨b,off,ha,Nat.lt_of_lt_of_le hbl hb.size,hra.keep (hb.block b hbl)⟩
def RulB (w:World)(b:Nat)(r:Rul):Prop:=
 w.cell? ⟨b,0,none⟩=some (.string r.name)∧w.cell? ⟨b,1,none⟩=some (.bool r.below)∧w.cell? ⟨b,2,none⟩=some (.int .i64 r.kind)∧
 w.cell? ⟨b,3,none⟩=some (.int .i64 r.typ)∧w.cell? ⟨b,4,none⟩=some (.int .i64 r.ttl)∧w.cell? ⟨b,5,none⟩=some (.string r.data)
theorem RulB.below {w w':World}{b:Nat}{r:Rul}(h:RulB w b r)(hl:b<w.heap.size)(hb:Below w.heap.size w w'):RulB w' b r:=by
 have e:∀i,w'.cell? ⟨b,i,none⟩=w.cell? ⟨b,i,none⟩:=fun i=>World.cell?_of_block (w:=w) (a:=⟨b,i,none⟩) (hb.block b hl);exact⟨(e _).trans h.1,(e _).trans h.2.1,(e _).trans h.2.2.1,(e _).trans h.2.2.2.1,(e _).trans h.2.2.2.2.1,(e _).trans h.2.2.2.2.2⟩
structure Msg where
 h:Hd
 qs:List Qn
 an:List Rec
 au:List Rec
 ad:List Rec
namespace pf
def sayB (q:Qn)(r:Rul):Bool:=decide (r.kind=4) && (decide (q.typ=r.typ) || decide (q.typ=255) || decide (r.typ=5))
@[reducible] def sayR (q:Qn) (r:Rul):Rec:=⟨q.name,r.typ,1,r.ttl,r.data⟩
def goes (x:Rec):Bool:=x.typ != 41
def told (q:Qn)(r:Rul)(A:Msg):Msg:=⟨{ A.h with aa:=false,jq:=if r.kind=2 then 3 else 0},A.qs,if sayB q r=true then [sayR q r] else [],[],df.keep goes A.ad⟩
end pf
theorem cloneQns_any (l:List Qn)(hl:l.length*32≤140737488355328)(v:Value)(hf:yz v)(w:World)(hrv:yu w v l):
 Calls Tryz.prog 37 #[v] w fun e w'=>∃v',e= .returned v'∧Below w.heap.size w w'∧w'.ownsRow w.heap.size 78 3 v' l.length (xI l):=by
 rcases hf with rfl | ⟨b,off,n,cap,rfl⟩
 ·obtain⟨a,cap,hv,hc,_⟩:=hrv;simp only[Value.slice.injEq]at hv;have hl0:l= []:=List.eq_nil_of_length_eq_zero hv.2.1.symm;subst hl0;refine(AnyE.slices_Clone_nil Tryz.cloneQ 0 0 w).mono ?_;rintro e w' ⟨rfl,rfl⟩;exact⟨_,rfl,Below.refl _ _,World.ownsRow_nil w' _ _ 3⟩
 ·obtain⟨rfl,hcl⟩:=qns_cells hrv;obtain⟨i0,hi0,hz0,hz1,hz2⟩:=info_parts info_qn;refine(AnyE.slices_Clone Tryz.cloneQ i0 _ 3 32 hi0 hz0 hz1 hz2 rfl (by omega) (fun w=>by kernel_rfl) b off l.length cap (xI l) w (qnsC_len l) (by unfold maxLen;omega) hl hcl (qns_one l)).mono ?_;rintro e w' ⟨v',rfl,h1,_,h2⟩;exact⟨v',rfl,h2,h1⟩
theorem Q4 {fn:Func}{p t:Tmp}(hf:fn.results= #[.cell p 33,.tmp t]){R:Ending→World→Prop}{a:Act}{w:World}{g:Nat}{h:Hd}{q x u d y:Value}(hp:a.tmps.getD p undef= .pointer (some ⟨g,0,none⟩))
 (ht:a.tmps.getD t undef=y) (hd:a.defers= []) (hg:qy w g h q x u d) (hR:R (.returned (.tuple #[yZ h q x u d,y])) w):bodyPost Tryz.prog fn R .ret a w:=by
 refine bodyPost_ret_by ?_ hd hR;have hp':a.tmps[p]?.getD undef= .pointer (some ⟨g,0,none⟩):=by simpa using hp
 have ht':a.tmps[t]?.getD undef=y:=by simpa using ht
 simp[results,hf,hp',ht',asAddr,run_loadVar_row w g _ 33 _ _ _ hg Tryz.underlying33 rfl msg_size]
def va (X:World)(b i:Nat):Value:=(X.cell? ⟨b,i,none⟩).getD undef
theorem va_of {X:World}{b i:Nat}{v:Value}(h:X.cell? ⟨b,i,none⟩=some v):va X b i=v:=by unfold va;rw[h];rfl
@[reducible] def InvO (w:World) (mb ob:Nat) (h:Hd) (q a u d:Value) (X:World):Prop:=
 w.grownBy X (some ob)∧qy X ob h (va X ob 10) (va X ob 11) (va X ob 12) (va X ob 13)∧(X.cell? ⟨mb,10,none⟩=some q∧X.cell? ⟨mb,11,none⟩=some a∧X.cell? ⟨mb,12,none⟩=some u∧X.cell? ⟨mb,13,none⟩=some d)∧
 (X.cell? ⟨ob,10,none⟩=some (va X ob 10)∧X.cell? ⟨ob,11,none⟩=some (va X ob 11)∧X.cell? ⟨ob,12,none⟩=some (va X ob 12)∧X.cell? ⟨ob,13,none⟩=some (va X ob 13))∧
 (X.frozen? ⟨ob,10,none⟩=false∧X.frozen? ⟨ob,11,none⟩=false∧X.frozen? ⟨ob,12,none⟩=false∧X.frozen? ⟨ob,13,none⟩=false)
theorem invO_of {w X:World}{mb ob:Nat}{hm h:Hd}{q a u d q' a' u' d':Value}(hg:w.grownBy X (some ob))(hm0:qy w mb hm q a u d)(hne:mb≠ob)(ho:qy X ob h q' a' u' d'):InvO w mb ob h q a u d X:=by
 obtain⟨_,_,_,_,_,_,_,_,_,_,x10,x11,x12,x13⟩:=ho.facts;have hmX:qy X mb hm q a u d:=(hg.block mb hm0.lt (fun e=>hne (by simpa using e))).trans hm0;obtain⟨_,_,_,_,_,_,_,_,_,_,y10,y11,y12,y13⟩:=hmX.facts;unfold InvO;rw[va_of x10,va_of x11,va_of x12,va_of x13];exact⟨hg,ho,⟨y10,y11,y12,y13⟩,⟨x10,x11,x12,x13⟩,ho.free 10,ho.free 11,ho.free 12,ho.free 13⟩
section
variable {w X Y:World}{mb ob:Nat}{hm h:Hd}{q a u d:Value}
theorem InvO.below (hm0:qy w mb hm q a u d)(hne:mb≠ob)(hi:InvO w mb ob h q a u d X)(hB:Below X.heap.size X Y):InvO w mb ob h q a u d Y:=
 invO_of (hi.1.trans ⟨hB.os,hB.tape,hB.output,hB.size,fun k hk _=>hB.block k hk⟩) hm0 hne (hi.2.1.below hB)
end
structure FR (base:Nat)(w:World)(ob rb:Nat)(q a u d:Value)(qs:List Qn)(an au ad:List Rec):Prop where
 rq:w.ownsRow base 78 3 q qs.length (xI qs)
 lo:Loose base w q a u d qs.length an au ad
 oq:q.ownBlock≠some ob∧q.ownBlock≠some rb
 oa:a.ownBlock≠some ob∧a.ownBlock≠some rb
 ou:u.ownBlock≠some ob∧u.ownBlock≠some rb
 od_:d.ownBlock≠some ob∧d.ownBlock≠some rb
section
variable {base ob rb:Nat}{w w':World}{q a u d:Value}{qs:List Qn}{an au ad:List Rec}
theorem FR.keep (h:FR base w ob rb q a u d qs an au ad)(hs:w.heap.size≤w'.heap.size)(hk:∀b,b<w.heap.size→b≠ob→b≠rb→w'.heap[b]? =w.heap[b]?):FR base w' ob rb q a u d qs an au ad:=by
 have kr:∀{v:Value} {e:TypeId} {sz n:Nat} {xs:List Value},w.ownsRow base e sz v n xs→v.ownBlock≠some ob∧v.ownBlock≠some rb→w'.ownsRow base e sz v n xs:=fun hr ho=>
  qj hr fun b hb=>hk b (hr.lt b hb).2 (fun e=>ho.1 (by rw[hb,e])) (fun e=>ho.2 (by rw[hb,e]))
 exact⟨kr h.rq h.oq,⟨⟨_,kr h.rq h.oq⟩,kr h.lo.ra h.oa,kr h.lo.ru h.ou,kr h.lo.rd h.od_,h.lo.qa,h.lo.qu,h.lo.qd,h.lo.au_,h.lo.ad_,h.lo.ud,Nat.le_trans h.lo.ZC hs⟩,h.oq,h.oa,h.ou,h.od_⟩
theorem FR.below (h:FR base w ob rb q a u d qs an au ad)(hB:Below w.heap.size w w'):FR base w' ob rb q a u d qs an au ad:=h.keep hB.size fun b hb _ _=>hB.block b hb
theorem FR.set (h:FR base w ob rb q a u d qs an au ad)(i:Nat)(v:Value):FR base (w.setCell ⟨ob,i,none⟩ v) ob rb q a u d qs an au ad:=h.keep (by simp[World.setCell]) fun b _ hne _=>Below.heap_setCell _ _ _ _ hne
end
theorem UT (base:Nat)(h:Hd)(qs:List Qn)(an au ad:List Rec)(hq:qs.length≤1000000000000)(ha:an.length≤1000000000000)(hu:au.length≤1000000000000)(hd:ad.length≤1000000000000)(q:Value)(ga ca gu cu gd cd:Nat)(q' a' u' d':Value)(w:World)
 (q1:yu w q qs) (a1:yw w base ga ca an) (u1:yw w base gu cu au) (d1:yw w base gd cd ad) (q2:yu w q' qs) (a2:qm w a' an) (u2:qm w u' au) (d2:qm w d' ad):
 Calls Tryz.prog 14 #[yZ h q (.slice (some ⟨ga,0,none⟩) an.length ca) (.slice (some ⟨gu,0,none⟩) au.length cu) (.slice (some ⟨gd,0,none⟩) ad.length cd),yZ h q' a' u' d'] w fun e w'=>e= .returned (.bool true)∧Below w.heap.size w w':=by
 obtain⟨w1,hw1⟩:∃X,X=w.alloc (.cells (yG h q (.slice (some ⟨ga,0,none⟩) an.length ca) (.slice (some ⟨gu,0,none⟩) au.length cu) (.slice (some ⟨gd,0,none⟩) ad.length cd)).toArray 33):=⟨_,rfl⟩;obtain⟨w2,hw2⟩:∃X,X=w1.alloc (.cells (yG h q' a' u' d').toArray 33):=⟨_,rfl⟩;obtain⟨hB1,hs1,hm1⟩:=zC hw1;obtain⟨hB2,hs2,hm2⟩:=zC hw2;have HX2:=qe (hm1.below hB2);have HB2:=qe (hB1.trans (hB2.mono hB1.size));rw[hs1]at hm2;obtain⟨x0,x1,x2,x3,x4,x5,x6,x7,x8,x9,x10,x11,x12,x13⟩:=HX2.out.facts;obtain⟨y0,y1,y2,y3,y4,y5,y6,y7,y8,y9,y10,y11,y12,y13⟩:=hm2.facts;have HY2:=qe hm2;clear hm1 hm2 hs1 hs2 hB1 hB2;have HW1:=qe hw1;have HW2:=qe hw2;clear hw1 hw2;have HQ1:=qe q1;have HQ2:=qe q2;have HA1:=qe a1;have HA2:=qe a2;have HU1:=qe u1;have HU2:=qe u2;have HD1:=qe d1;have HD2:=qe d2;clear q1 q2 a1 a2 u1 u2 d1 d2
 go_enter Tryz.func14,Tryz.ntmps14
 go_upto_region 1 with fail;rw[← HW1.out,← HW2.out];go_wp2_with fail;refine(head_same h _ _ _ _ _ _ _ _ _).mono ?_;rintro e w3 ⟨rfl,hB3⟩;clear x0 x1 x2 x3 x4 x5 x6 x7 x8 x9 y0 y1 y2 y3 y4 y5 y6 y7 y8 y9;have HX3:=qe (HX2.out.below hB3);have HY3:=qe (HY2.out.below hB3);have HB3:=qe (HB2.out.trans (hB3.mono HB2.out.size));clear hB3 x10 x11 x12 x13 y10 y11 y12 y13;obtain⟨_,_,_,_,_,_,_,_,_,_,x10,x11,x12,x13⟩:=HX3.out.facts;obtain⟨_,_,_,_,_,_,_,_,_,_,y10,y11,y12,y13⟩:=HY3.out.facts;go_wp2_with fail;refine(Ja qs hq _ _ w3 (HQ1.out.below HB3.out) (HQ2.out.below HB3.out)).mono ?_;rintro e w4 ⟨rfl,hB4⟩;have HX4:=qe (HX3.out.below hB4);have HY4:=qe (HY3.out.below hB4);have HB4:=qe (HB3.out.trans (hB4.mono HB3.out.size));clear hB4 x10 x11 x12 x13 y10 y11 y12 y13;obtain⟨_,_,_,_,_,_,_,_,_,_,x10,x11,x12,x13⟩:=HX4.out.facts;obtain⟨_,_,_,_,_,_,_,_,_,_,y10,y11,y12,y13⟩:=HY4.out.facts;have ta:=HA1.out.below HB4.out;go_wp2_with fail;refine(UR base ga ca an ha _ w4 ta.1 ta.2 (HA2.out.below HB4.out)).mono ?_;rintro e w5 ⟨rfl,hB5⟩;clear ta;have HX5:=qe (HX4.out.below hB5);have HY5:=qe (HY4.out.below hB5);have HB5:=qe (HB4.out.trans (hB5.mono HB4.out.size));clear hB5 x10 x11 x12 x13 y10 y11 y12 y13;obtain⟨_,_,_,_,_,_,_,_,_,_,x10,x11,x12,x13⟩:=HX5.out.facts;obtain⟨_,_,_,_,_,_,_,_,_,_,y10,y11,y12,y13⟩:=HY5.out.facts;have tu:=HU1.out.below HB5.out;go_wp2_with fail;refine(UR base gu cu au hu _ w5 tu.1 tu.2 (HU2.out.below HB5.out)).mono ?_;rintro e w6 ⟨rfl,hB6⟩;clear tu;have HX6:=qe (HX5.out.below hB6);have HY6:=qe (HY5.out.below hB6);have HB6:=qe (HB5.out.trans (hB6.mono HB5.out.size));clear hB6 x10 x11 x12 x13 y10 y11 y12 y13;obtain⟨_,_,_,_,_,_,_,_,_,_,x10,x11,x12,x13⟩:=HX6.out.facts;obtain⟨_,_,_,_,_,_,_,_,_,_,y10,y11,y12,y13⟩:=HY6.out.facts;have td:=HD1.out.below HB6.out;go_wp2_with fail;refine(UR base gd cd ad hd _ w6 td.1 td.2 (HD2.out.below HB6.out)).mono ?_;rintro e w7 ⟨rfl,hB7⟩;have HB7:=qe (HB6.out.trans (hB7.mono HB6.out.size));clear hB7 td;go_wp2_with fail;go_ret;exact⟨rfl,HB7.out⟩
structure MsgIn (w:World)(M:Msg)(q a u d:Value):Prop where
 rq:yu w q M.qs
 ra:qm w a M.an
 ru:qm w u M.au
 rd:qm w d M.ad
theorem MsgIn.below {w w':World}{M:Msg}{q a u d:Value}(h:MsgIn w M q a u d)(hB:Below w.heap.size w w'):MsgIn w' M q a u d:=⟨h.rq.below hB,h.ra.below hB,h.ru.below hB,h.rd.below hB⟩
theorem Loose.below {w w':World}{base nq:Nat}{q a u d:Value}{an au ad:List Rec}(h:Loose base w q a u d nq an au ad)(hB:Below w.heap.size w w'):Loose base w' q a u d nq an au ad:=
 ⟨by obtain⟨xs,hx⟩:=h.qs;exact⟨xs,ownsRow_below hx hB⟩,ownsRow_below h.ra hB,ownsRow_below h.ru hB,ownsRow_below h.rd hB,h.qa,h.qu,h.qd,h.au_,h.ad_,h.ud,Nat.le_trans h.ZC hB.size⟩
def jB (w:World)(v:Value)(l:List Msg):Prop:=∃ao cap,v= .slice ao l.length cap∧l.length≤cap∧
 ∀k (hk:k<l.length),∃b off q a u d,ao=some ⟨b,off,none⟩∧b<w.heap.size∧(∀j x,(yG l[k].h q a u d)[j]? =some x→w.cell? ⟨b,off+k*14+j,none⟩=some x)∧MsgIn w l[k] q a u d∧
  (l[k].qs.length≤1000000000000∧l[k].an.length≤1000000000000∧l[k].au.length≤1000000000000∧l[k].ad.length≤1000000000000)
theorem jB.below {w w':World}{v:Value}{l:List Msg}(h:jB w v l)(hB:Below w.heap.size w w'):jB w' v l:=by
 obtain⟨ao,cap,h1,h2,h3⟩:=h;refine⟨ao,cap,h1,h2,fun k hk=>?_⟩;obtain⟨b,off,q,a,u,d,e,hb,hc,hi,hf⟩:=h3 k hk;exact⟨b,off,q,a,u,d,e,Nat.lt_of_lt_of_le hb hB.size,fun j x hx=>(hB.cell (p:=⟨b,_,none⟩) hb).trans (hc j x hx),hi.below hB,hf⟩
theorem xS {w:World}{ao:Option Addr}{n cap:Nat}{l:List Msg}(h:jB w (.slice ao n cap) l){k:Nat}(hk:k<l.length):
 ∃b off q a u d,ao=some ⟨b,off,none⟩∧(w.cell? ⟨b,off+k*14,none⟩=some (.int .i64 l[k].h.id)∧w.cell? ⟨b,off+k*14+1,none⟩=some (.bool l[k].h.Um)∧w.cell? ⟨b,off+k*14+2,none⟩=some (.int .i64 l[k].h.op)∧w.cell? ⟨b,off+k*14+3,none⟩=some (.bool l[k].h.aa)∧w.cell? ⟨b,off+k*14+4,none⟩=some (.bool l[k].h.tc)∧w.cell? ⟨b,off+k*14+5,none⟩=some (.bool l[k].h.rd)∧w.cell? ⟨b,off+k*14+6,none⟩=some (.bool l[k].h.ra)∧w.cell? ⟨b,off+k*14+7,none⟩=some (.bool l[k].h.ad)∧w.cell? ⟨b,off+k*14+8,none⟩=some (.bool l[k].h.cd)∧w.cell? ⟨b,off+k*14+9,none⟩=some (.int .i64 l[k].h.jq)∧w.cell? ⟨b,off+k*14+10,none⟩=some (q)∧w.cell? ⟨b,off+k*14+11,none⟩=some (a)∧w.cell? ⟨b,off+k*14+12,none⟩=some (u)∧w.cell? ⟨b,off+k*14+13,none⟩=some (d))∧MsgIn w l[k] q a u d∧
  (l[k].qs.length≤1000000000000∧l[k].an.length≤1000000000000∧l[k].au.length≤1000000000000∧l[k].ad.length≤1000000000000):=by
 obtain⟨ao',cap',hv,_,h3⟩:=h;simp only[Value.slice.injEq]at hv;obtain⟨rfl,-,-⟩:=hv;obtain⟨b,off,q,a,u,d,e,_,hc,hi,hf⟩:=h3 k hk;exact⟨b,off,q,a,u,d,e,⟨hc 0 _ rfl,hc 1 _ rfl,hc 2 _ rfl,hc 3 _ rfl,hc 4 _ rfl,hc 5 _ rfl,hc 6 _ rfl,hc 7 _ rfl,hc 8 _ rfl,hc 9 _ rfl,hc 10 _ rfl,hc 11 _ rfl,hc 12 _ rfl,hc 13 _ rfl⟩,hi,hf⟩
theorem rows_any (l:List Msg)(hl:l.length≤1000000)(v u:Value)(w:World)(hv:jB w v l)(hu:jB w u l):
 Calls Tryz.prog 13 #[v,u] w fun e w'=>e= .returned (.bool true)∧Below w.heap.size w w':=by
 have HV:=qe hv;have HU:=qe hu;obtain⟨va,vc,rfl,-,-⟩:=id hv;obtain⟨ua,uc,rfl,-,-⟩:=id hu;clear hv hu;have d0:((l.length:Int) != (l.length:Int))=false:=by rw[bne_eq_false_iff_eq]
 go_enter Tryz.func13,Tryz.ntmps13
 go_wp2_with fail;clear d0
 go_loopw [13] (fun kv wr=>∃k:Nat,k≤l.length∧kv= .int .i64 (k:Int)∧Hid (Below w.heap.size w wr)) (fun kv _=>l.length-(intOf kv).toNat)
 case atStart=>exact⟨0,Nat.zero_le _,rfl,qe (Below.refl _ _)⟩
 case round=>
  obtain⟨k,hk,rfl,HB⟩:=hrel;obtain⟨w3,hw3⟩:∃X:World,X=wr:=⟨_,rfl⟩;subst hw3;by_cases hlt:k<l.length
  ·have hki:(k:Int)<(l.length:Int):=by omega
   obtain⟨b,off,q,a,x,d,rfl,⟨c0,c1,c2,c3,c4,c5,c6,c7,c8,c9,c10,c11,c12,c13⟩,hin,hle⟩:=xS (HV.out.below HB.out) hlt;obtain⟨b',off',q',a',x',d',rfl,⟨d0,d1,d2,d3,d4,d5,d6,d7,d8,d9,d10,d11,d12,d13⟩,hin',-⟩:=xS (HU.out.below HB.out) hlt;obtain⟨qa,qc,rfl,-⟩:=id hin.rq;obtain⟨aa,ac,rfl,-⟩:=id hin.ra;obtain⟨xa,xc,rfl,-⟩:=id hin.ru;obtain⟨da,dc,rfl,-⟩:=id hin.rd;obtain⟨qa',qc',rfl,-⟩:=id hin'.rq;obtain⟨aa',ac',rfl,-⟩:=id hin'.ra;obtain⟨xa',xc',rfl,-⟩:=id hin'.ru;obtain⟨da',dc',rfl,-⟩:=id hin'.rd;have CM:Hid (∀p,Calls Tryz.prog 19 #[yZ l[k].h (.slice qa l[k].qs.length qc) (.slice aa l[k].an.length ac) (.slice xa l[k].au.length xc) (.slice da l[k].ad.length dc),yZ l[k].h (.slice qa' l[k].qs.length qc') (.slice aa' l[k].an.length ac') (.slice xa' l[k].au.length xc') (.slice da' l[k].ad.length dc')] (gw w3 p) fun e w''=>e= .returned (.bool true)∧∃p',w''=gw w3 p'):=qe fun p=>by
    have h1:=hin.below (qB w3 p);have h2:=hin'.below (qB w3 p);exact qV (messages_same l[k].h l[k].qs l[k].an l[k].au l[k].ad hle.1 hle.2.1 hle.2.2.1 hle.2.2.2 _ _ _ _ _ _ _ _ (gw w3 p) h1.rq h2.rq h1.ra h2.ra h1.ru h2.ru h1.rd h2.rd)
   obtain⟨M,hM⟩:∃M,M=l[k]:=⟨_,rfl⟩;rw[← hM]at CM c0 d0 c1 d1 c2 d2 c3 d3 c4 d4 c5 d5 c6 d6 c7 d7 c8 d8 c9 d9 c10 d10 c11 d11 c12 d12 c13 d13;have a0:=qf c0;have b0:=qf d0;have a1:=qf c1;have b1:=qf d1;have a2:=qf c2;have b2:=qf d2;have a3:=qf c3;have b3:=qf d3;have a4:=qf c4;have b4:=qf d4;have a5:=qf c5;have b5:=qf d5;have a6:=qf c6;have b6:=qf d6;have a7:=qf c7;have b7:=qf d7;have a8:=qf c8;have b8:=qf d8;have a9:=qf c9;have b9:=qf d9;have a10:=qf c10;have b10:=qf d10;have a11:=qf c11;have b11:=qf d11;have a12:=qf c12;have b12:=qf d12;have a13:=qf c13;have b13:=qf d13;clear hin hin' hle hM;go_upto_region 6 with fail;clear c0 d0 c1 d1 c2 d2 c3 d3 c4 d4 c5 d5 c6 d6 c7 d7 c8 d8 c9 d9 c10 d10 c11 d11 c12 d12 c13 d13;refine ql (by kernel_rfl) (by kernel_rfl) ?_
   repeat (with_reducible refine wpQuiet_step (fun K hK=>?_);go_simp;(try simp only[undef]);first | (with_reducible refine hK _ ?_;clear hK K) | (apply Exists.intro;refine⟨fun _=>?_,hK _ ?_⟩;(first | (go_at_call 19;with_reducible exact CM.out _));clear hK K) | (with_reducible refine⟨fun _ h=>(by cases h),?_⟩;with_reducible refine hK _ ?_;clear hK K))
   refine wpQuiet_nil ?_
   (try simp only[show Value.tuple #[]=undef from rfl])
   intro U hU;have hBU:Below w3.heap.size w3 U:=by obtain⟨g,rfl⟩:=hU;exact qB _ g
   clear hU;have HBU:=qe (HB.out.trans (hBU.mono HB.out.size));clear hBU a0 b0 a1 b1 a2 b2 a3 b3 a4 b4 a5 b5 a6 b6 a7 b7 a8 b8 a9 b9 a10 b10 a11 b11 a12 b12 a13 b13;go_wp2_with fail
   go_roundw
   case rel=>exact⟨k+1,by omega,by go_num,HBU⟩
   case measure=>simp[intOf];omega
  ·obtain rfl:k=l.length:=by omega
   clear hlt;go_wp2_with fail;go_ret;exact⟨rfl,HB.out⟩
end Go.Proofs.YtpcmilhjpmlbpaaGreatDoor
