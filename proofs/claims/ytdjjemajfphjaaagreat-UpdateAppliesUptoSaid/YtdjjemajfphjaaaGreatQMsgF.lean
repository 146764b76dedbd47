import Derived.Test.YtdjjemajfphjaaaGreatQUpdAm
import Derived.Test.YtdjjemajfphjaaaGreatQWirB
import Derived.Test.YtdjjemajfphjaaaGreatQRefU
import Derived.Test.YtdjjemajfphjaaaGreatQNameE
import Derived.Test.YtdjjemajfphjaaaGreatQDataS
import Derived.Test.YtdjjemajfphjaaaGreatQRefP
import Derived.Test.YtdjjemajfphjaaaGreatQUpdL
set_option maxRecDepth 100000
set_option maxHeartbeats 4000000
namespace Go.Proofs.YtdjjemajfphjaaaGreat
open Go.RowKit Go.Shelf nm od
def Uk (w:World)(base:Nat)(v:Value)(n:Nat):Prop:=∃xs,w.ownsRow base 63 3 v n xs
theorem Uk.three {w:World}{base g n cap:Nat}(h:Uk w base (.slice (some ⟨g,0,none⟩) n cap) n)(j0 j1 j2:Nat)(u0 u1 u2:Value):
 Uk (((w.setCell ⟨g,j0,none⟩ u0).setCell ⟨g,j1,none⟩ u1).setCell ⟨g,j2,none⟩ u2) base (.slice (some ⟨g,0,none⟩) n cap) n∧
 w.grownBy (((w.setCell ⟨g,j0,none⟩ u0).setCell ⟨g,j1,none⟩ u1).setCell ⟨g,j2,none⟩ u2) (some g):=by
 obtain⟨xs,hx⟩:=h
 obtain⟨h0,k0⟩:=hx.stored j0 u0
 obtain⟨h1,k1⟩:=h0.stored j1 u1
 obtain⟨h2,k2⟩:=h1.stored j2 u2
 exact⟨⟨_,h2⟩,(k0.trans k1).trans k2⟩
theorem Uk.cells {w:World}{base g n cap:Nat}(h:Uk w base (.slice (some ⟨g,0,none⟩) n cap) n){j:Nat}(hj:j<n*3):∃u,w.cell? ⟨g,j,none⟩=some u∧w.frozen? ⟨g,j,none⟩=false:=by
 obtain⟨xs,hx⟩:=h
 have h1:=hx.cellAt j hj
 rw[List.getElem?_eq_getElem (by rw[hx.1];exact hj)]at h1
 exact⟨_,h1,hx.frozenAt j⟩
structure Loose (base:Nat)(w:World)(q a u d:Value)(nq:Nat)(an au ad:List Rec):Prop where
 qs:Uk w base q nq
 ra:w.ownsRow base 51 5 a an.length (qG an)
 ru:w.ownsRow base 51 5 u au.length (qG au)
 rd:w.ownsRow base 51 5 d ad.length (qG ad)
 qa:∀g,q.ownBlock=some g→a.ownBlock≠some g
 qu:∀g,q.ownBlock=some g→u.ownBlock≠some g
 qd:∀g,q.ownBlock=some g→d.ownBlock≠some g
 au_:∀g,a.ownBlock=some g→u.ownBlock≠some g
 ad_:∀g,a.ownBlock=some g→d.ownBlock≠some g
 ud:∀g,u.ownBlock=some g→d.ownBlock≠some g
 kI:base≤w.heap.size
namespace mk
def vs (a u d:Value)(j:Nat):Value:=match j with | 0=>a | 1=>u | _=>d
def ls (an au ad:List Rec)(j:Nat):List Rec:=match j with | 0=>an | 1=>au | _=>ad
end mk
theorem Uk.keep {w w':World}{base n:Nat}{v:Value}(h:Uk w base v n)(hk:∀b,v.ownBlock=some b→w'.heap[b]? =w.heap[b]?):Uk w' base v n:=by
 obtain⟨xs,hx⟩:=h
 exact⟨xs,qi hx hk⟩
end Go.Proofs.YtdjjemajfphjaaaGreat
namespace Go.Proofs.YtdjjemajfphjaaaGreat
open nm
structure Rul where
 name:ByteArray
 below:Bool
 kind:Int
 typ:Int
 ttl:Int
 data:ByteArray
 deriving DecidableEq,Inhabited
namespace pf
def qR (r:Rul):Bool:=ql r.name && decide (0≤r.kind) && decide (r.kind≤4) && (!decide (r.kind=4) || decide (dt.yo r.typ r.data=0) && decide (0≤r.ttl) && decide (r.ttl≤2147483647))
end pf
end Go.Proofs.YtdjjemajfphjaaaGreat
namespace Go.Proofs.YtdjjemajfphjaaaGreat
open Go.RowKit Go.Shelf nm od
def RulAt (w:World)(b off:Nat)(r:Rul):Prop:=
 w.cell? ⟨b,off,none⟩=some (.string r.name)∧w.cell? ⟨b,off+1,none⟩=some (.bool r.below)∧w.cell? ⟨b,off+2,none⟩=some (.int .i64 r.kind)∧
 w.cell? ⟨b,off+3,none⟩=some (.int .i64 r.typ)∧w.cell? ⟨b,off+4,none⟩=some (.int .i64 r.ttl)∧w.cell? ⟨b,off+5,none⟩=some (.string r.data)
def RulsAt (w:World)(v:Value)(l:List Rul):Prop:=
 ∃a cap,v= .slice a l.length cap∧l.length≤cap∧∀k (hk:k<l.length),∃b off,a=some ⟨b,off,none⟩∧b<w.heap.size∧RulAt w b (off+k*6) l[k]
theorem RulAt.keep {w w':World}{b off:Nat}{r:Rul}(h:RulAt w b off r)(hk:w'.heap[b]? =w.heap[b]?):RulAt w' b off r:=by
 have e:∀i,w'.cell? ⟨b,i,none⟩=w.cell? ⟨b,i,none⟩:=fun i=>World.cell?_of_block (w:=w) (a:=⟨b,i,none⟩) hk
 exact⟨(e _).trans h.1,(e _).trans h.2.1,(e _).trans h.2.2.1,(e _).trans h.2.2.2.1,(e _).trans h.2.2.2.2.1,(e _).trans h.2.2.2.2.2⟩
theorem RulsAt.below {w w':World}{v:Value}{l:List Rul}(h:RulsAt w v l)(hb:Below w.heap.size w w'):RulsAt w' v l:=by
 obtain⟨a,cap,hv,hc,hr⟩:=h
 refine⟨a,cap,hv,hc,fun k hk=>?_⟩
 obtain⟨b,off,ha,hbl,hra⟩:=hr k hk
 exact⟨b,off,ha,Nat.lt_of_lt_of_le hbl hb.size,hra.keep (hb.block b hbl)⟩
def RulB (w:World)(b:Nat)(r:Rul):Prop:=
 w.cell? ⟨b,0,none⟩=some (.string r.name)∧w.cell? ⟨b,1,none⟩=some (.bool r.below)∧w.cell? ⟨b,2,none⟩=some (.int .i64 r.kind)∧
 w.cell? ⟨b,3,none⟩=some (.int .i64 r.typ)∧w.cell? ⟨b,4,none⟩=some (.int .i64 r.ttl)∧w.cell? ⟨b,5,none⟩=some (.string r.data)
theorem RulB.below {w w':World}{b:Nat}{r:Rul}(h:RulB w b r)(hl:b<w.heap.size)(hb:Below w.heap.size w w'):RulB w' b r:=by
 have e:∀i,w'.cell? ⟨b,i,none⟩=w.cell? ⟨b,i,none⟩:=fun i=>World.cell?_of_block (w:=w) (a:=⟨b,i,none⟩) (hb.block b hl)
 exact⟨(e _).trans h.1,(e _).trans h.2.1,(e _).trans h.2.2.1,(e _).trans h.2.2.2.1,(e _).trans h.2.2.2.2.1,(e _).trans h.2.2.2.2.2⟩
end Go.Proofs.YtdjjemajfphjaaaGreat
namespace Go.Proofs.YtdjjemajfphjaaaGreat
open Go.RowKit Go.Shelf nm od
structure Msg where
 h:Hd
 qs:List Qn
 an:List Rec
 au:List Rec
 ad:List Rec
namespace pf
def sayB (q:Qn)(r:Rul):Bool:=decide (r.kind=4) && (decide (q.typ=r.typ) || decide (q.typ=255) || decide (r.typ=5))
@[reducible] def sayR (q:Qn) (r:Rul):Rec:=⟨q.name,r.typ,1,r.ttl,r.data⟩
def goes (x:Rec):Bool:=x.typ != 41
def told (q:Qn)(r:Rul)(A:Msg):Msg:=⟨{ A.h with aa:=false,vE:=if r.kind=2 then 3 else 0},A.qs,if sayB q r=true then [sayR q r] else [],[],df.keep goes A.ad⟩
end pf
def va (X:World)(b i:Nat):Value:=(X.cell? ⟨b,i,none⟩).getD undef
theorem va_of {X:World}{b i:Nat}{v:Value}(h:X.cell? ⟨b,i,none⟩=some v):va X b i=v:=by unfold va;rw[h];rfl
@[reducible] def InvO (w:World) (mb ob:Nat) (h:Hd) (q a u d:Value) (X:World):Prop:=
 w.grownBy X (some ob)∧yn X ob h (va X ob 10) (va X ob 11) (va X ob 12) (va X ob 13)∧(X.cell? ⟨mb,10,none⟩=some q∧X.cell? ⟨mb,11,none⟩=some a∧X.cell? ⟨mb,12,none⟩=some u∧X.cell? ⟨mb,13,none⟩=some d)∧
 (X.cell? ⟨ob,10,none⟩=some (va X ob 10)∧X.cell? ⟨ob,11,none⟩=some (va X ob 11)∧X.cell? ⟨ob,12,none⟩=some (va X ob 12)∧X.cell? ⟨ob,13,none⟩=some (va X ob 13))∧
 (X.frozen? ⟨ob,10,none⟩=false∧X.frozen? ⟨ob,11,none⟩=false∧X.frozen? ⟨ob,12,none⟩=false∧X.frozen? ⟨ob,13,none⟩=false)
theorem invO_of {w X:World}{mb ob:Nat}{hm h:Hd}{q a u d q' a' u' d':Value}(hg:w.grownBy X (some ob))(hm0:yn w mb hm q a u d)(hne:mb≠ob)(ho:yn X ob h q' a' u' d'):InvO w mb ob h q a u d X:=by
 obtain⟨_,_,_,_,_,_,_,_,_,_,x10,x11,x12,x13⟩:=ho.facts
 have hmX:yn X mb hm q a u d:=(hg.block mb hm0.lt (fun e=>hne (by simpa using e))).trans hm0
 obtain⟨_,_,_,_,_,_,_,_,_,_,y10,y11,y12,y13⟩:=hmX.facts
 unfold InvO
 rw[va_of x10,va_of x11,va_of x12,va_of x13]
 exact⟨hg,ho,⟨y10,y11,y12,y13⟩,⟨x10,x11,x12,x13⟩,ho.free 10,ho.free 11,ho.free 12,ho.free 13⟩
section
variable {w X Y:World}{mb ob:Nat}{hm h:Hd}{q a u d:Value}
theorem InvO.below (hm0:yn w mb hm q a u d)(hne:mb≠ob)(hi:InvO w mb ob h q a u d X)(hB:Below X.heap.size X Y):InvO w mb ob h q a u d Y:=
 invO_of (hi.1.trans ⟨hB.os,hB.tape,hB.output,hB.size,fun k hk _=>hB.block k hk⟩) hm0 hne (hi.2.1.below hB)
end
structure FR (base:Nat)(w:World)(ob rb:Nat)(q a u d:Value)(qs:List Qn)(an au ad:List Rec):Prop where
 rq:w.ownsRow base 63 3 q qs.length (YW qs)
 lo:Loose base w q a u d qs.length an au ad
 oq:q.ownBlock≠some ob∧q.ownBlock≠some rb
 oa:a.ownBlock≠some ob∧a.ownBlock≠some rb
 ou:u.ownBlock≠some ob∧u.ownBlock≠some rb
 od_:d.ownBlock≠some ob∧d.ownBlock≠some rb
section
variable {base ob rb:Nat}{w w':World}{q a u d:Value}{qs:List Qn}{an au ad:List Rec}
theorem FR.keep (h:FR base w ob rb q a u d qs an au ad)(hs:w.heap.size≤w'.heap.size)(hk:∀b,b<w.heap.size→b≠ob→b≠rb→w'.heap[b]? =w.heap[b]?):FR base w' ob rb q a u d qs an au ad:=by
 have kr:∀{v:Value} {e:TypeId} {sz n:Nat} {xs:List Value},w.ownsRow base e sz v n xs→v.ownBlock≠some ob∧v.ownBlock≠some rb→w'.ownsRow base e sz v n xs:=fun hr ho=>
  qi hr fun b hb=>hk b (hr.lt b hb).2 (fun e=>ho.1 (by rw[hb,e])) (fun e=>ho.2 (by rw[hb,e]))
 exact⟨kr h.rq h.oq,⟨⟨_,kr h.rq h.oq⟩,kr h.lo.ra h.oa,kr h.lo.ru h.ou,kr h.lo.rd h.od_,h.lo.qa,h.lo.qu,h.lo.qd,h.lo.au_,h.lo.ad_,h.lo.ud,Nat.le_trans h.lo.kI hs⟩,h.oq,h.oa,h.ou,h.od_⟩
theorem FR.below (h:FR base w ob rb q a u d qs an au ad)(hB:Below w.heap.size w w'):FR base w' ob rb q a u d qs an au ad:=h.keep hB.size fun b hb _ _=>hB.block b hb
theorem FR.set (h:FR base w ob rb q a u d qs an au ad)(i:Nat)(v:Value):FR base (w.setCell ⟨ob,i,none⟩ v) ob rb q a u d qs an au ad:=h.keep (by simp[World.setCell]) fun b _ hne _=>Below.heap_setCell _ _ _ _ hne
end
end Go.Proofs.YtdjjemajfphjaaaGreat
namespace Go.Proofs.YtdjjemajfphjaaaGreat
open Go.RowKit Go.Shelf nm od
theorem UA (base:Nat)(h:Hd)(qs:List Qn)(an au ad:List Rec)(hq:qs.length≤1000000000000)(ha:an.length≤1000000000000)(hu:au.length≤1000000000000)(hd:ad.length≤1000000000000)(q:Value)(ga ca gu cu gd cd:Nat)(q' a' u' d':Value)(w:World)
 (q1:kJ w q qs) (a1:zZ w base ga ca an) (u1:zZ w base gu cu au) (d1:zZ w base gd cd ad) (q2:kJ w q' qs) (a2:qy w a' an) (u2:qy w u' au) (d2:qy w d' ad):
 Calls Tryz.prog 11 #[Yg h q (.slice (some ⟨ga,0,none⟩) an.length ca) (.slice (some ⟨gu,0,none⟩) au.length cu) (.slice (some ⟨gd,0,none⟩) ad.length cd),Yg h q' a' u' d'] w fun e w'=>e= .returned (.bool true)∧Below w.heap.size w w':=by
 obtain⟨w1,hw1⟩:∃X,X=w.alloc (.cells (Yh h q (.slice (some ⟨ga,0,none⟩) an.length ca) (.slice (some ⟨gu,0,none⟩) au.length cu) (.slice (some ⟨gd,0,none⟩) ad.length cd)).toArray 25):=⟨_,rfl⟩
 obtain⟨w2,hw2⟩:∃X,X=w1.alloc (.cells (Yh h q' a' u' d').toArray 25):=⟨_,rfl⟩
 obtain⟨hB1,hs1,hm1⟩:=uJ hw1
 obtain⟨hB2,hs2,hm2⟩:=uJ hw2
 have HX2:=Lib.hid (hm1.below hB2)
 have HB2:=Lib.hid (hB1.trans (hB2.mono hB1.size))
 rw[hs1]at hm2
 obtain⟨x0,x1,x2,x3,x4,x5,x6,x7,x8,x9,x10,x11,x12,x13⟩:=HX2.out.facts
 obtain⟨y0,y1,y2,y3,y4,y5,y6,y7,y8,y9,y10,y11,y12,y13⟩:=hm2.facts
 have HY2:=Lib.hid hm2
 clear hm1 hm2 hs1 hs2 hB1 hB2
 have HW1:=Lib.hid hw1;have HW2:=Lib.hid hw2
 clear hw1 hw2
 have HQ1:=Lib.hid q1;have HQ2:=Lib.hid q2;have HA1:=Lib.hid a1;have HA2:=Lib.hid a2;have HU1:=Lib.hid u1;have HU2:=Lib.hid u2;have HD1:=Lib.hid d1;have HD2:=Lib.hid d2
 clear q1 q2 a1 a2 u1 u2 d1 d2
 go_enter Tryz.func11,Tryz.ntmps11
 go_upto_region 1 with fail
 rw[← HW1.out,← HW2.out]
 go_wp2_with fail
 refine(head_same h _ _ _ _ _ _ _ _ _).mono ?_
 rintro e w3 ⟨rfl,hB3⟩
 clear x0 x1 x2 x3 x4 x5 x6 x7 x8 x9 y0 y1 y2 y3 y4 y5 y6 y7 y8 y9
 have HX3:=Lib.hid (HX2.out.below hB3);have HY3:=Lib.hid (HY2.out.below hB3)
 have HB3:=Lib.hid (HB2.out.trans (hB3.mono HB2.out.size))
 clear hB3 x10 x11 x12 x13 y10 y11 y12 y13
 obtain⟨_,_,_,_,_,_,_,_,_,_,x10,x11,x12,x13⟩:=HX3.out.facts
 obtain⟨_,_,_,_,_,_,_,_,_,_,y10,y11,y12,y13⟩:=HY3.out.facts
 go_wp2_with fail
 refine(XD qs hq _ _ w3 (HQ1.out.below HB3.out) (HQ2.out.below HB3.out)).mono ?_
 rintro e w4 ⟨rfl,hB4⟩
 have HX4:=Lib.hid (HX3.out.below hB4);have HY4:=Lib.hid (HY3.out.below hB4)
 have HB4:=Lib.hid (HB3.out.trans (hB4.mono HB3.out.size))
 clear hB4 x10 x11 x12 x13 y10 y11 y12 y13
 obtain⟨_,_,_,_,_,_,_,_,_,_,x10,x11,x12,x13⟩:=HX4.out.facts
 obtain⟨_,_,_,_,_,_,_,_,_,_,y10,y11,y12,y13⟩:=HY4.out.facts
 have ta:=HA1.out.below HB4.out
 go_wp2_with fail
 refine(Uz base ga ca an ha _ w4 ta.1 ta.2 (HA2.out.below HB4.out)).mono ?_
 rintro e w5 ⟨rfl,hB5⟩
 clear ta
 have HX5:=Lib.hid (HX4.out.below hB5);have HY5:=Lib.hid (HY4.out.below hB5)
 have HB5:=Lib.hid (HB4.out.trans (hB5.mono HB4.out.size))
 clear hB5 x10 x11 x12 x13 y10 y11 y12 y13
 obtain⟨_,_,_,_,_,_,_,_,_,_,x10,x11,x12,x13⟩:=HX5.out.facts
 obtain⟨_,_,_,_,_,_,_,_,_,_,y10,y11,y12,y13⟩:=HY5.out.facts
 have tu:=HU1.out.below HB5.out
 go_wp2_with fail
 refine(Uz base gu cu au hu _ w5 tu.1 tu.2 (HU2.out.below HB5.out)).mono ?_
 rintro e w6 ⟨rfl,hB6⟩
 clear tu
 have HX6:=Lib.hid (HX5.out.below hB6);have HY6:=Lib.hid (HY5.out.below hB6)
 have HB6:=Lib.hid (HB5.out.trans (hB6.mono HB5.out.size))
 clear hB6 x10 x11 x12 x13 y10 y11 y12 y13
 obtain⟨_,_,_,_,_,_,_,_,_,_,x10,x11,x12,x13⟩:=HX6.out.facts
 obtain⟨_,_,_,_,_,_,_,_,_,_,y10,y11,y12,y13⟩:=HY6.out.facts
 have td:=HD1.out.below HB6.out
 go_wp2_with fail
 refine(Uz base gd cd ad hd _ w6 td.1 td.2 (HD2.out.below HB6.out)).mono ?_
 rintro e w7 ⟨rfl,hB7⟩
 have HB7:=Lib.hid (HB6.out.trans (hB7.mono HB6.out.size))
 clear hB7 td
 go_wp2_with fail
 go_ret
 exact⟨rfl,HB7.out⟩
end Go.Proofs.YtdjjemajfphjaaaGreat
namespace Go.Proofs.YtdjjemajfphjaaaGreat
open Go.RowKit Go.Shelf nm od
structure MsgIn (w:World)(M:Msg)(q a u d:Value):Prop where
 rq:kJ w q M.qs
 ra:qy w a M.an
 ru:qy w u M.au
 rd:qy w d M.ad
theorem MsgIn.below {w w':World}{M:Msg}{q a u d:Value}(h:MsgIn w M q a u d)(hB:Below w.heap.size w w'):MsgIn w' M q a u d:=⟨h.rq.below hB,h.ra.below hB,h.ru.below hB,h.rd.below hB⟩
theorem Loose.below {w w':World}{base nq:Nat}{q a u d:Value}{an au ad:List Rec}(h:Loose base w q a u d nq an au ad)(hB:Below w.heap.size w w'):Loose base w' q a u d nq an au ad:=
 ⟨by obtain⟨xs,hx⟩:=h.qs;exact⟨xs,ownsRow_below hx hB⟩,ownsRow_below h.ra hB,ownsRow_below h.ru hB,ownsRow_below h.rd hB,h.qa,h.qu,h.qd,h.au_,h.ad_,h.ud,Nat.le_trans h.kI hB.size⟩
end Go.Proofs.YtdjjemajfphjaaaGreat
