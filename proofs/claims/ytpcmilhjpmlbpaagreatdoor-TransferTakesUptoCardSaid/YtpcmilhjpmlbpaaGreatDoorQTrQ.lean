import Derived.Test.YtpcmilhjpmlbpaaGreatDoorQTrP
import Derived.Deep.CutBlock
set_option maxRecDepth 100000
set_option maxHeartbeats 8000000
namespace Go.Proofs.YtpcmilhjpmlbpaaGreatDoor
open Go.RowKit Go.Shelf nm od
def Writ (w:World)(base:Nat)(v:Value)(n:Nat):Prop:=∃xs,w.ownsRow base 80 5 v n xs
theorem Writ.set {w:World}{base g n cap:Nat}(h:Writ w base (.slice (some ⟨g,0,none⟩) n cap) n)(j:Nat)(u:Value):Writ (w.setCell ⟨g,j,none⟩ u) base (.slice (some ⟨g,0,none⟩) n cap) n/\w.grownBy (w.setCell ⟨g,j,none⟩ u) (some g):=by
 obtain⟨xs,hx⟩:=h;obtain⟨h1,h2⟩:=hx.stored j u;exact⟨⟨_,h1⟩,h2⟩
theorem Writ.cells {w:World}{base g n cap:Nat}(h:Writ w base (.slice (some ⟨g,0,none⟩) n cap) n){j:Nat}(hj:j<n*5):∃u,w.cell? ⟨g,j,none⟩=some u/\w.frozen? ⟨g,j,none⟩=false:=by
 obtain⟨xs,hx⟩:=h;have h1:=hx.cellAt j hj;rw[List.getElem?_eq_getElem (by rw[hx.1];exact hj)]at h1;exact⟨_,h1,hx.frozenAt j⟩
abbrev zH:Rec:=⟨⟨#[115,112,97,114,101]⟩,-77,-77,-77,⟨#[115,112,97,114,101]⟩⟩
theorem rec_size:(Tryz.prog.info? 80).map (·.size)=some 5:=by kernel_rfl
theorem rec_ret {fn:Func}{p:Tmp}(hf:fn.results= #[.cell p 80]){R:Ending->World->Prop}{a:Act}{w:World}{g:Nat}{v0 v1 v2 v3 v4:Value}(hp:a.tmps.getD p undef= .pointer (some ⟨g,0,none⟩))
 (hd:a.defers= []) (hg:w.heap[g]? =some (.cells #[v0,v1,v2,v3,v4] 80 (0,0))) (hR:R (.returned (.agg #[v0,v1,v2,v3,v4])) w):bodyPost Tryz.prog fn R .ret a w:=
 bodyPost_ret_by (results_cell_row hf _ w g _ _ _ _ hp hg Tryz.underlying80 rfl rec_size) hd hR
theorem Yh (w:World):Calls Tryz.prog 64 #[] w λe w'=>e= .returned (yf zH)/\Below w.heap.size w w':=by
 go_enter Tryz.func64,Tryz.ntmps64
 go_wp2_with fail;refine rec_ret rfl rfl rfl (qz rfl) ⟨rfl,(gJ _ w).alloc (gI _) _⟩
def RTwin (l:List Rec)(w:World)(e:Ending)(w':World):Prop:=∃g cap,e= .returned (.slice (some ⟨g,0,none⟩) l.length cap)/\Below w.heap.size w w'/\w'.ownsRow w.heap.size 80 5 (.slice (some ⟨g,0,none⟩) (l.length+2) cap) (l.length+2) (qw (l ++ [zH,zH]))/\l.length+2<=cap
theorem xe (l:List Rec):∀u∈qw l,u.oneCell'=true:=λu hu=>by
 unfold qw at hu;obtain⟨r,_,hr⟩:=List.mem_flatMap.1 hu;simp only[List.mem_cons,List.not_mem_nil,or_false]at hr;rcases hr with rfl | rfl | rfl | rfl | rfl <;> rfl
theorem Vn (base g cap:Nat)(l:List Rec)(hl:l.length<=1000000000000)(lv:Value)(w:World)(hown:w.ownsRow base 80 5 (.slice (some ⟨g,0,none⟩) (l.length+2) cap) (l.length+2) (qw (l ++ [zH,zH])))(hcap:l.length+2<=cap)(hlv:ql w lv l):
 Calls Tryz.prog 44 #[.slice (some ⟨g,0,none⟩) l.length cap,lv] w λe w'=>e= .returned (.bool true)/\Below w.heap.size w w':=by
 obtain⟨a,c,rfl,hc,_⟩:=id hlv;have hfull:ql w (.slice (some ⟨g,0,none⟩) (l.length+2) cap) (l ++ [zH,zH]):=qF (base:=base) (by rw[gK];exact hown);have hown2:ql w (.slice (some ⟨g,0,none⟩) l.length cap) l:=by
  have:=vM (k:=l.length) hfull (by rw[gK];omega);rw[List.take_left]at this;exact this
 have e1:(l ++ [zH,zH])[l.length]'(by rw[gK];simp)=zH:=by simp
 have e2:(l ++ [zH,zH])[l.length+1]'(by rw[gK];simp)=zH:=by simp
 obtain⟨_,p0,p1,p2,p3,p4⟩:=qH hfull (j:=l.length) (by rw[gK];simp);obtain⟨_,q0,q1,q2,q3,q4⟩:=qH hfull (j:=l.length+1) (by rw[gK];simp);rw[e1]at p0 p1 p2 p3 p4;rw[e2]at q0 q1 q2 q3 q4;rw[Nat.zero_add]at p0 p1 p2 p3 p4 q0 q1 q2 q3 q4;have g0:=qh p0;have g1:=qh p1;have g2:=qh p2;have g3:=qh p3;have g4:=qh p4;have k0:=qh q0;have k1:=qh q1;have k2:=qh q2;have k3:=qh q3;have k4:=qh q4
 have CS:Hid (∀p,Calls Tryz.prog 22 #[.slice (some ⟨g,0,none⟩) l.length cap,.slice a l.length c] (gw w p) λe w''=>e= .returned (.bool true)/\∃p',w''=gw w p'):=qe λp=>qY (by
  have:=Qk l l hl _ _ (gw w p) (hown2.below (qD w p)) (hlv.below (qD w p));rw[gF rfl]at this;exact this)
 have CP:Hid (∀p,Calls Tryz.prog 64 #[] (gw w p) λe w''=>e= .returned (yf zH)/\∃p',w''=gw w p'):=qe λp=>qY (Yh _);have hcap':(l.length:Int)+2<=(cap:Int):=by omega
 have hw1:IntKind.i64.wrap ((l.length:Int)+1)=(l.length:Int)+1:=Hg _ (by omega);have hw2:((l.length:Int)+2).toNat=l.length+2:=by omega
 have hb1:(0:Int)<=(l.length:Int):=by omega
 have hb2:(l.length:Int)<(l.length:Int)+2:=by omega
 have hb3:(0:Int)<=(l.length:Int)+1:=by omega
 have hb4:(l.length:Int)+1<(l.length:Int)+2:=by omega
 have hb5:((l.length:Int)+1).toNat=l.length+1:=by omega
 have HOWN:=qe hown;have HLV:=qe hlv;have HFULL:=qe hfull;have HOWN2:=qe hown2;clear hown hlv hfull hown2;clear e1 e2 p0 p1 p2 p3 p4 q0 q1 q2 q3 q4
 go_enter Tryz.func44,Tryz.ntmps44
 go_wp2_with fail;refine qp (by kernel_rfl) (by kernel_rfl) ?_
 repeat (with_reducible refine Hu (λK hK=>?_);go_simp;(try simp only[undef]);first | (with_reducible refine hK _ ?_;clear hK K) | (apply gW;refine⟨λ_=>?_,hK _ ?_⟩;(first | (go_at_call 22;with_reducible exact CS.out _) | (go_at_call 64;with_reducible exact CP.out _));clear hK K) | (with_reducible refine⟨λ_ h=>(by cases h),?_⟩;with_reducible refine hK _ ?_;clear hK K))
 refine Hw ?_
 (try simp only[show Value.tuple #[]=undef from rfl])
 intro W hW;have hBW:Below w.heap.size w W:=by obtain⟨g,rfl⟩:=hW;exact qD _ g
 clear hW;go_wp2_with fail;go_ret;exact⟨rfl,hBW⟩
open Go.WideMaps
structure Qn where
 name:ByteArray
 typ:Int
 cls:Int
@[reducible] def qnC (q:Qn):List Value:=[.string q.name,.int .i64 q.typ,.int .i64 q.cls]
def XL (w:World)(b off:Nat)(q:Qn):Prop:=w.cell? ⟨b,off,none⟩=some (.string q.name)/\w.cell? ⟨b,off+1,none⟩=some (.int .i64 q.typ)/\w.cell? ⟨b,off+2,none⟩=some (.int .i64 q.cls)
def yw (w:World)(v:Value)(l:List Qn):Prop:=
 ∃a cap,v= .slice a l.length cap/\l.length<=cap/\∀k (hk:k<l.length),∃b off,a=some ⟨b,off,none⟩/\b<w.heap.size/\XL w b (off+k*3) l[k]
theorem XL.keep {w w':World}{b off:Nat}{q:Qn}(h:XL w b off q)(hk:w'.heap[b]? =w.heap[b]?):XL w' b off q:=by
 have e:∀i,w'.cell? ⟨b,i,none⟩=w.cell? ⟨b,i,none⟩:=λi=>World.cell?_of_block (w:=w) (a:=⟨b,i,none⟩) hk;exact⟨(e _).trans h.1,(e _).trans h.2.1,(e _).trans h.2.2⟩
theorem yw.below {w w':World}{v:Value}{l:List Qn}(h:yw w v l)(hb:Below w.heap.size w w'):yw w' v l:=by
 obtain⟨a,cap,hv,hc,hr⟩:=h;refine⟨a,cap,hv,hc,λk hk=>?_⟩;obtain⟨b,off,ha,hbl,hra⟩:=hr k hk;exact⟨b,off,ha,gN hbl hb.size,hra.keep (hb.block b hbl)⟩
theorem YS (w w1:World)(q:Qn)(h:w1=w.alloc (.cells (qnC q).toArray 78)):Below w.heap.size w w1/\w1.heap.size=w.heap.size+1/\XL w1 w.heap.size 0 q:=by
 subst h;refine⟨(gJ _ w).alloc (gI _) _,by simp,?_,?_,?_⟩ <;> (rw[qg (qz rfl)];rfl)
end Go.Proofs.YtpcmilhjpmlbpaaGreatDoor
namespace Go.Proofs.YtpcmilhjpmlbpaaGreatDoor
open Go.RowKit Go.Shelf nm od
deriving instance DecidableEq for Qn
deriving instance Inhabited for Qn
structure Hd where
 id:Int
 KW:Bool
 op:Int
 aa:Bool
 tc:Bool
 rd:Bool
 ra:Bool
 ad:Bool
 cd:Bool
 yL:Int
 deriving DecidableEq,Inhabited
@[reducible] def yT (h:Hd) (q a u d:Value):List Value:=[.int .i64 h.id,.bool h.KW,.int .i64 h.op,.bool h.aa,.bool h.tc,.bool h.rd,.bool h.ra,.bool h.ad,.bool h.cd,.int .i64 h.yL,q,a,u,d]
@[reducible] def yu (h:Hd) (q a u d:Value):Value:=.agg #[.int .i64 h.id,.bool h.KW,.int .i64 h.op,.bool h.aa,.bool h.tc,.bool h.rd,.bool h.ra,.bool h.ad,.bool h.cd,.int .i64 h.yL,q,a,u,d]
def qi (w:World)(b:Nat)(h:Hd)(q a u d:Value):Prop:=w.heap[b]? =some (.cells (yT h q a u d).toArray 33 (0,0))
theorem qi.lt {w:World}{b:Nat}{h:Hd}{q a u d:Value}(hb:qi w b h q a u d):b<w.heap.size:=qA hb
theorem qi.below {w w':World}{b:Nat}{h:Hd}{q a u d:Value}(hb:qi w b h q a u d)(hB:Below w.heap.size w w'):qi w' b h q a u d:=(hB.block b hb.lt).trans hb
theorem zG {w w1:World}{h:Hd}{q a u d:Value}(e:w1=w.alloc (.cells (yT h q a u d).toArray 33)):Below w.heap.size w w1/\w1.heap.size=w.heap.size+1/\qi w1 w.heap.size h q a u d:=by
 subst e;exact⟨(gJ _ w).alloc (gI _) _,by simp,qz rfl⟩
theorem qi.facts {w:World}{b:Nat}{h:Hd}{q a u d:Value}(hb:qi w b h q a u d):
 w.cell? ⟨b,0,none⟩=some (.int .i64 h.id)/\w.cell? ⟨b,1,none⟩=some (.bool h.KW)/\w.cell? ⟨b,2,none⟩=some (.int .i64 h.op)/\w.cell? ⟨b,3,none⟩=some (.bool h.aa)/\w.cell? ⟨b,4,none⟩=some (.bool h.tc)/\
 w.cell? ⟨b,5,none⟩=some (.bool h.rd)/\w.cell? ⟨b,6,none⟩=some (.bool h.ra)/\w.cell? ⟨b,7,none⟩=some (.bool h.ad)/\w.cell? ⟨b,8,none⟩=some (.bool h.cd)/\w.cell? ⟨b,9,none⟩=some (.int .i64 h.yL)/\
 w.cell? ⟨b,10,none⟩=some q/\w.cell? ⟨b,11,none⟩=some a/\w.cell? ⟨b,12,none⟩=some u/\w.cell? ⟨b,13,none⟩=some d:=by
 unfold qi at hb;refine⟨?_,?_,?_,?_,?_,?_,?_,?_,?_,?_,?_,?_,?_,?_⟩ <;> (rw[qg hb];rfl)
theorem qi.free {w:World}{b:Nat}{h:Hd}{q a u d:Value}(hb:qi w b h q a u d)(i:Nat):w.frozen? ⟨b,i,none⟩=false:=qB hb i
theorem head_same (h:Hd)(q a u d q' a' u' d':Value)(w:World):
 Calls Tryz.prog 42 #[yu h q a u d,yu h q' a' u' d'] w λe w'=>e= .returned (.bool true)/\Below w.heap.size w w':=by
 obtain⟨i,b1,o,b3,b4,b5,b6,b7,b8,c⟩:=h;have e0:(i == i)=true:=by rw[Hz]
 have e1:(b1 == b1)=true:=by rw[Hz]
 have e2:(o == o)=true:=by rw[Hz]
 have e3:(b3 == b3)=true:=by rw[Hz]
 have e4:(b4 == b4)=true:=by rw[Hz]
 have e5:(b5 == b5)=true:=by rw[Hz]
 have e6:(b6 == b6)=true:=by rw[Hz]
 have e7:(b7 == b7)=true:=by rw[Hz]
 have e8:(b8 == b8)=true:=by rw[Hz]
 have e9:(c == c)=true:=by rw[Hz]
 have HB:=qe (((gJ _ w).alloc (gI _) (.cells (yT ⟨i,b1,o,b3,b4,b5,b6,b7,b8,c⟩ q a u d).toArray 33)).alloc (by simp) (.cells (yT ⟨i,b1,o,b3,b4,b5,b6,b7,b8,c⟩ q' a' u' d').toArray 33))
 go_enter Tryz.func42,Tryz.ntmps42
 go_wp2_with fail;go_ret;exact⟨rfl,HB.out⟩
theorem qn_if {α:Type}(r s:Qn)(A B:α):(if r.name.toList=s.name.toList then(if r.typ=s.typ then(if r.cls=s.cls then A else B) else B) else B)=if r=s then A else B:=by
 obtain⟨a1,a2,a3⟩:=r;obtain⟨b1,b2,b3⟩:=s;have e:∀a b:ByteArray,a.toList=b.toList↔a=b:=λa b=>by rw[<- str_eq,Hz]
 simp only[e,Qn.mk.injEq];by_cases h1:a1=b1 <;> by_cases h2:a2=b2 <;> by_cases h3:a3=b3 <;> simp[h1,h2,h3]
theorem Jn (x:List Qn)(hx:x.length<=1000000000000)(v u:Value)(w:World)(hv:yw w v x)(hu:yw w u x):
 Calls Tryz.prog 43 #[v,u] w λe w'=>e= .returned (.bool true)/\Below w.heap.size w w':=by
 obtain⟨a,cap,rfl,-⟩:=id hv;obtain⟨a2,cap2,rfl,-⟩:=id hu;have HV:=qe hv;have HU:=qe hu;clear hv hu
 go_enter Tryz.func43,Tryz.ntmps43
 go_wp2_with fail
 go_loopw [13,5] (λkv _ wr=>∃k:Nat,k<=x.length/\kv= .int .i64 (k:Int)/\Below w.heap.size w wr) (λkv _ _=>x.length-(intOf kv).toNat)
 case atStart=>exact⟨0,gU _,rfl,gJ _ _⟩
 case round=>
  obtain⟨k,hk,rfl,hB⟩:=hrel;have HB:=qe hB;by_cases hkm:k<x.length
  ·obtain⟨a',cap',hv,_,hr⟩:=yw.below HV.out hB;simp only[gL]at hv;obtain⟨rfl,_,rfl⟩:=hv;obtain⟨b,off,rfl,hbl,c0,c1,c2⟩:=hr k hkm;obtain⟨a',cap',hv,_,hr2⟩:=yw.below HU.out hB;simp only[gL]at hv;obtain⟨rfl,_,rfl⟩:=hv;obtain⟨b2,off2,rfl,hbl2,d0,d1,d2⟩:=hr2 k hkm;clear hr hr2 hB;go_upto_region 6 with fail;refine qp (by kernel_rfl) (by kernel_rfl) ?_;have e0:=qh c0;have e1:=qh c1;have e2:=qh c2;have f0:=qh d0;have f1:=qh d1;have f2:=qh d2
   repeat (with_reducible refine Hu (λK hK=>?_);go_simp;first | (with_reducible refine hK _ ?_;clear hK K))
   refine Hw ?_;intro W hW;have hBW:Below wr.heap.size wr W:=by obtain⟨p,rfl⟩:=hW;exact qD _ p
   have HBW:=qe (gm HB.out hBW);clear hW hBW e0 e1 e2 f0 f1 f2 c0 c1 c2 d0 d1 d2;go_wp2_with fail
   go_roundw
   case rel=>exact⟨k+1,by omega,by go_num,HBW.out⟩
   case measure=>simp[intOf];omega
  ·obtain rfl:k=x.length:=by omega
   clear hkm hB;go_wp2_with fail;go_ret;exact⟨rfl,HB.out⟩
theorem Vy (x:List Rec)(hx:x.length<=1000000000000)(v u:Value)(w:World)(hv:ql w v x)(hu:ql w u x):
 Calls Tryz.prog 22 #[v,u] w λe w'=>e= .returned (.bool true)/\Below w.heap.size w w':=by
 have h:=Qk x x hx v u w hv hu;rw[gF rfl]at h;exact h
theorem messages_same (h:Hd)(qs:List Qn)(an au ad:List Rec)(hq:qs.length<=1000000000000)(ha:an.length<=1000000000000)(hu:au.length<=1000000000000)(hd:ad.length<=1000000000000)(q a u d q' a' u' d':Value)(w:World)
 (q1:yw w q qs) (q2:yw w q' qs) (a1:ql w a an) (a2:ql w a' an) (u1:ql w u au) (u2:ql w u' au) (d1:ql w d ad) (d2:ql w d' ad):
 Calls Tryz.prog 19 #[yu h q a u d,yu h q' a' u' d'] w λe w'=>e= .returned (.bool true)/\Below w.heap.size w w':=by
 obtain⟨w1,hw1⟩:=yM (w.alloc (.cells (yT h q a u d).toArray 33));obtain⟨w2,hw2⟩:=yM (w1.alloc (.cells (yT h q' a' u' d').toArray 33));obtain⟨hB1,hs1,hm1⟩:=zG hw1;obtain⟨hB2,hs2,hm2⟩:=zG hw2;have HM1:=qe (hm1.below hB2);have hB:=gm hB1 hB2;rw[hs1]at hm2;obtain⟨x0,x1,x2,x3,x4,x5,x6,x7,x8,x9,x10,x11,x12,x13⟩:=HM1.out.facts;obtain⟨y0,y1,y2,y3,y4,y5,y6,y7,y8,y9,y10,y11,y12,y13⟩:=hm2.facts;clear hm1 hs1 hs2 hB1 hB2;have HW1:=qe hw1;have HW2:=qe hw2;have HM2:=qe hm2;have HB:=qe hB;clear hw1 hw2 hm2 hB;have HQ1:=qe q1;have HQ2:=qe q2;have HA1:=qe a1;have HA2:=qe a2;have HU1:=qe u1;have HU2:=qe u2;have HD1:=qe d1;have HD2:=qe d2;clear q1 q2 a1 a2 u1 u2 d1 d2
 go_enter Tryz.func19,Tryz.ntmps19
 go_upto_region 1 with fail;rw[<- HW1.out,<- HW2.out];go_wp2_with fail;refine(head_same h _ _ _ _ _ _ _ _ _).mono ?_;rintro e w3 ⟨rfl,hB3⟩;have HB3:=qe (gm HB.out hB3);have HX3:=qe (HM1.out.below hB3);have HY3:=qe (HM2.out.below hB3);clear hB3 x0 x1 x2 x3 x4 x5 x6 x7 x8 x9 x10 x11 x12 x13 y0 y1 y2 y3 y4 y5 y6 y7 y8 y9 y10 y11 y12 y13;obtain⟨_,_,_,_,_,_,_,_,_,_,x10,x11,x12,x13⟩:=HX3.out.facts;obtain⟨_,_,_,_,_,_,_,_,_,_,y10,y11,y12,y13⟩:=HY3.out.facts;go_wp2_with fail;refine(Jn qs hq _ _ w3 (HQ1.out.below HB3.out) (HQ2.out.below HB3.out)).mono ?_;rintro e w4 ⟨rfl,hB4⟩;have HB4:=qe (gm HB3.out hB4);have HX4:=qe (HX3.out.below hB4);have HY4:=qe (HY3.out.below hB4);clear hB4 x10 x11 x12 x13 y10 y11 y12 y13;obtain⟨_,_,_,_,_,_,_,_,_,_,x10,x11,x12,x13⟩:=HX4.out.facts;obtain⟨_,_,_,_,_,_,_,_,_,_,y10,y11,y12,y13⟩:=HY4.out.facts;go_wp2_with fail;refine(Vy an ha _ _ w4 (HA1.out.below HB4.out) (HA2.out.below HB4.out)).mono ?_;rintro e w5 ⟨rfl,hB5⟩;have HB5:=qe (gm HB4.out hB5);have HX5:=qe (HX4.out.below hB5);have HY5:=qe (HY4.out.below hB5);clear hB5 x10 x11 x12 x13 y10 y11 y12 y13;obtain⟨_,_,_,_,_,_,_,_,_,_,x10,x11,x12,x13⟩:=HX5.out.facts;obtain⟨_,_,_,_,_,_,_,_,_,_,y10,y11,y12,y13⟩:=HY5.out.facts;go_wp2_with fail;refine(Vy au hu _ _ w5 (HU1.out.below HB5.out) (HU2.out.below HB5.out)).mono ?_;rintro e w6 ⟨rfl,hB6⟩;have HB6:=qe (gm HB5.out hB6);have HX6:=qe (HX5.out.below hB6);have HY6:=qe (HY5.out.below hB6);clear hB6 x10 x11 x12 x13 y10 y11 y12 y13;obtain⟨_,_,_,_,_,_,_,_,_,_,x10,x11,x12,x13⟩:=HX6.out.facts;obtain⟨_,_,_,_,_,_,_,_,_,_,y10,y11,y12,y13⟩:=HY6.out.facts;go_wp2_with fail;refine(Vy ad hd _ _ w6 (HD1.out.below HB6.out) (HD2.out.below HB6.out)).mono ?_;rintro e w7 ⟨rfl,hB7⟩;have HB7:=qe (gm HB6.out hB7);clear hB7;go_wp2_with fail;go_ret;exact⟨rfl,HB7.out⟩
namespace wi
def qnB (q:Qn):Bool:=qo q.name && inB q.typ 65535 && inB q.cls 65535
def hdB (h:Hd):Bool:=inB h.id 65535 && inB h.op 15 && inB h.yL 15
def lenB (qs:List Qn)(an au ad:List Rec):Bool:=decide (qs.length<=65535/\an.length<=65535/\au.length<=65535/\ad.length<=65535)
def jL (h:Hd)(qs:List Qn)(an au ad:List Rec):Bool:=hdB h && lenB qs an au ad && qs.all qnB && an.all qP && au.all qP && ad.all qP
def okI (b:Bool):Int:=if b=true then 0 else 8
theorem JM {α:Type}(f:α->Bool){l:List α}{k:Nat}(h:k<l.length):(l.take (k+1)).all f=((l.take k).all f && f l[k]):=by
 rw[gV h,List.all_append];simp
theorem all_bad {α:Type}(f:α->Bool){l:List α}{k:Nat}(h:k<l.length)(hf:f l[k]=false):l.all f=false:=by
 rw[List.all_eq_false];exact⟨l[k],Ht h,by rw[hf];simp⟩
theorem U8 {α:Type}(f:α->Bool){l:List α}{k:Nat}{x:α}(h:k<l.length)(ht:(l.take k).all f=true)(hx:x=l[k])(hf:f x=true):(l.take (k+1)).all f=true:=by
 subst hx;rw[JM f h,ht,hf];rfl
theorem YF {α:Type}(f:α->Bool){l:List α}{k:Nat}{x:α}(h:k<l.length)(hx:x=l[k])(hf:f x=false):l.all f=false:=by
 subst hx;exact all_bad f h hf
end wi
theorem run_max4 (ts:Array TypeId)(t:TypeId)(a b c d:Int)(w:World):∃M,(Builtin.max_ ts t #[.int .i64 a,.int .i64 b,.int .i64 c,.int .i64 d]).run Tryz.prog w= .ok (.int .i64 M) w/\(65535<M↔65535<a\/65535<b\/65535<c\/65535<d):=by
 obtain⟨m2,hm2⟩:=yM (if b > a then b else a)
 obtain⟨m3,hm3⟩:=yM (if c > m2 then c else m2)
 refine⟨if d > m3 then d else m3,?_,?_⟩
 ·rw[hm3,hm2];simp[Builtin.max_,Builtin.max2]
 ·rw[hm3,hm2]
  repeat' split
  all_goals omega
theorem XZ (h:Hd)(qs:List Qn)(an au ad:List Rec)(hq:qs.length<=1000000000000)(ha:an.length<=1000000000000)(hu:au.length<=1000000000000)(hd:ad.length<=1000000000000)(q a u d:Value)(w:World)
 (rq:yw w q qs) (ra:ql w a an) (ru:ql w u au) (rd:ql w d ad):
 Calls Tryz.prog 34 #[yu h q a u d] w λe w'=>e= .returned (.int .i64 (wi.okI (wi.jL h qs an au ad)))/\Below w.heap.size w w':=by
 obtain⟨w1,hw1⟩:=yM (w.alloc (.cells (yT h q a u d).toArray 33));obtain⟨hB1,hs1,hm1⟩:=zG hw1;have HQ:=qe rq;have HA:=qe ra;have HU:=qe ru;have HD:=qe rd;obtain⟨qa,qc,rfl,-⟩:=id rq;obtain⟨aa,ac,rfl,-⟩:=id ra;obtain⟨ua,uc,rfl,-⟩:=id ru;obtain⟨da,dc,rfl,-⟩:=id rd;obtain⟨x0,x1,x2,x3,x4,x5,x6,x7,x8,x9,x10,x11,x12,x13⟩:=hm1.facts;have HW1:=qe hw1;have HB1:=qe hB1;have HM1:=qe hm1;clear hw1 hB1 hm1;clear hs1 rq ra ru rd
 go_enter Tryz.func34,Tryz.ntmps34
 go_upto_region 1 with fail;rw[<- HW1.out];go_wp2_with fail;refine(Jy _ _ _).mono ?_;rintro e w2 ⟨rfl,rfl⟩;obtain⟨b2,hb2⟩:=yM (wi.inB h.id 65535);rw[<- hb2]
 cases b2
 ·have hr:wi.okI (wi.jL h qs an au ad)=8:=by simp[wi.okI,wi.jL,wi.hdB,<- hb2]
  clear hb2;have HR:=qe hr;clear hr;go_wp2_with fail;go_ret;exact⟨qQ HR.out.symm,HB1.out⟩
 have HI2:=qe hb2.symm;clear hb2;go_wp2_with fail;refine(Jy _ _ _).mono ?_;rintro e w3 ⟨rfl,rfl⟩;obtain⟨b3,hb3⟩:=yM (wi.inB h.op 15);rw[<- hb3]
 cases b3
 ·have hr:wi.okI (wi.jL h qs an au ad)=8:=by simp[wi.okI,wi.jL,wi.hdB,<- hb3]
  clear hb3;have HR:=qe hr;clear hr;go_wp2_with fail;go_ret;exact⟨qQ HR.out.symm,HB1.out⟩
 have HI3:=qe hb3.symm;clear hb3;go_wp2_with fail;refine(Jy _ _ _).mono ?_;rintro e w4 ⟨rfl,rfl⟩;obtain⟨b4,hb4⟩:=yM (wi.inB h.yL 15);rw[<- hb4]
 cases b4
 ·have hr:wi.okI (wi.jL h qs an au ad)=8:=by simp[wi.okI,wi.jL,wi.hdB,<- hb4]
  clear hb4;have HR:=qe hr;clear hr;go_wp2_with fail;go_ret;exact⟨qQ HR.out.symm,HB1.out⟩
 have HI4:=qe hb4.symm;clear hb4;obtain⟨M,hmax,hM⟩:=run_max4 #[3,3,3,3] 3 (qs.length:Int) (an.length:Int) (au.length:Int) (ad.length:Int) w1;by_cases hlen:65535<M
 ·have d1:decide (65535<M)=true:=gF hlen;have hr:wi.okI (wi.jL h qs an au ad)=8:=by
   have h1:wi.lenB qs an au ad=false:=gp λh=>by omega
   simp[wi.okI,wi.jL,h1]
  clear hM hlen;have HR:=qe hr;clear hr;go_wp2_with fail;go_ret;exact⟨qQ HR.out.symm,HB1.out⟩
 have d1:decide (65535<M)=false:=gp hlen;have HLEN:=qe (show wi.lenB qs an au ad=true from gF (by omega));clear hM hlen;go_wp2_with fail
 go_loopw [44] (λkv wr=>∃k:Nat,k<=qs.length/\kv= .int .i64 (k:Int)/\Hid ((qs.take k).all wi.qnB=true/\Below w1.heap.size w1 wr)) (λkv _=>qs.length-(intOf kv).toNat)
 case atStart=>exact⟨0,gU _,rfl,qe ⟨rfl,gJ _ _⟩⟩
 case round=>
  obtain⟨k,hk,rfl,HR⟩:=hrel;obtain⟨w3,hw3⟩:=yM wr;subst hw3;have HB3:=qe (HB1.out.trans (HR.out.2.mono HB1.out.size));by_cases hlt:k<qs.length
  ·have hki:(k:Int)<(qs.length:Int):=by omega
   obtain⟨_,_,hv,_,hr0⟩:=yw.below HQ.out HB3.out;simp only[gL,true_and]at hv;obtain⟨rfl,rfl⟩:=hv;obtain⟨bb,off,rfl,hbl,c0,c1,c2⟩:=hr0 k hlt;obtain⟨x,hx⟩:=yM (qs[k]);rw[<- hx]at c0 c1 c2;obtain⟨wa,hwa⟩:=yM (w3.alloc (.cells (qnC x).toArray 78));obtain⟨hBa,hsa,hxa⟩:=YS w3 wa x hwa;obtain⟨bx,hbx⟩:=yM w3.heap.size;rw[<- hbx]at hxa;have hbxl:bx<wa.heap.size:=by omega
   obtain⟨y0,y1,y2⟩:=id hxa;simp only[Nat.zero_add]at y1 y2;have HWA:=qe hwa;have HX:=qe hx;have HLT:=qe hlt;have HXA:=qe hxa;have Uk:=qe hbxl;have HBX:=qe hbx;have HB4:=qe (gm HB3.out hBa);have HC4:=qe (HR.out.2.trans (hBa.mono HR.out.2.size));clear hwa hx hBa hsa hr0 hbl hxa hbxl hbx;go_upto_region 6 with fail;rw[<- HWA.out,<- HBX.out];clear c0 c1 c2;go_wp2_with fail;refine(zy _ _).mono ?_;rintro e w5 ⟨rfl,hB5⟩;obtain⟨z0,z1,z2⟩:=HXA.out.keep (hB5.block bx Uk.out);simp only[Nat.zero_add]at z1 z2;have HB5:=qe (gm HB4.out hB5);have HC5:=qe (gm HC4.out hB5);clear hB5 y0 y1 y2
   cases hc:qo x.name
   ·have hr:wi.okI (wi.jL h qs an au ad)=8:=by
     have h1:=wi.YF wi.qnB HLT.out HX.out (by simp[wi.qnB,hc]);simp[wi.okI,wi.jL,h1]
    rw[Yr];clear hc;have HR:=qe hr;clear hr;go_wp2_with fail;go_ret;exact⟨qQ HR.out.symm,HB5.out⟩
   ·rw[vR];have HC:=qe hc;clear hc;go_wp2_with fail;refine(Jy _ _ _).mono ?_;rintro e w6 ⟨rfl,rfl⟩;obtain⟨b6,hb6⟩:=yM (wi.inB x.typ 65535);rw[<- hb6]
    cases b6
    ·have hr:wi.okI (wi.jL h qs an au ad)=8:=by
      have h1:=wi.YF wi.qnB HLT.out HX.out (by simp[wi.qnB,<- hb6]);simp[wi.okI,wi.jL,h1]
     clear hb6;have HR:=qe hr;clear hr;go_wp2_with fail;go_ret;exact⟨qQ HR.out.symm,HB5.out⟩
    have HI6:=qe hb6.symm;clear hb6;go_wp2_with fail;refine(Jy _ _ _).mono ?_;rintro e w7 ⟨rfl,rfl⟩;obtain⟨b7,hb7⟩:=yM (wi.inB x.cls 65535);rw[<- hb7]
    cases b7
    ·have hr:wi.okI (wi.jL h qs an au ad)=8:=by
      have h1:=wi.YF wi.qnB HLT.out HX.out (by simp[wi.qnB,<- hb7]);simp[wi.okI,wi.jL,h1]
     clear hb7;have HR:=qe hr;clear hr;go_wp2_with fail;go_ret;exact⟨qQ HR.out.symm,HB5.out⟩
    have HI7:=qe hb7.symm;clear hb7;have HQB:=qe (wi.U8 wi.qnB HLT.out HR.out.1 HX.out (by simp[wi.qnB,HC.out,HI6.out,HI7.out]));go_wp2_with fail
    go_roundw
    case rel=>exact⟨k+1,by omega,by go_num,qe ⟨HQB.out,HC5.out⟩⟩
    case measure=>simp[intOf];omega
  ·obtain rfl:k=qs.length:=by omega
   have HQA:=qe (show qs.all wi.qnB=true by have:=HR.out.1;rwa [List.take_length]at this);obtain⟨y0,y1,y2,y3,y4,y5,y6,y7,y8,y9,y10,y11,y12,y13⟩:=(HM1.out.below HR.out.2).facts;clear hlt x0 x1 x2 x3 x4 x5 x6 x7 x8 x9 x10 x11 x12 x13;go_wp2_with fail;clear y0 y1 y2 y3 y4 y5 y6 y7 y8 y9 y10 y11 y12 y13
   go_loopw [72] (λjv wr=>∃j:Nat,j<=3/\jv= .int .i64 (j:Int)/\Hid ((1<=j->an.all wi.qP=true)/\(2<=j->au.all wi.qP=true)/\(3<=j->ad.all wi.qP=true)/\Below w.heap.size w wr)) (λjv _=>3-(intOf jv).toNat)
   case atStart=>exact⟨0,by omega,rfl,qe ⟨λh=>by omega,λh=>by omega,λh=>by omega,HB3.out⟩⟩
   case round=>
    obtain⟨j,hj,rfl,HO⟩:=hrel;obtain⟨wo,hwo⟩:=yM wr;subst hwo
    match j,hj with
    | 0,_=>
      have HBo:=qe HO.out.2.2.2;have hix:∀W:World,(Instr.index 124 (.agg #[.slice aa an.length ac,.slice ua au.length uc,.slice da ad.length dc]) (.int .i64 0)).run Tryz.prog W= .ok (.slice aa an.length ac) W:=λW=>by kernel_rfl
      go_wp2_with fail
      go_loopw [77] (λkv wr=>∃k:Nat,k<=an.length/\kv= .int .i64 (k:Int)/\Hid ((an.take k).all wi.qP=true/\Below w.heap.size w wr)) (λkv _=>an.length-(intOf kv).toNat)
      case atStart=>exact⟨0,gU _,rfl,qe ⟨rfl,HBo.out⟩⟩
      case round=>
       obtain⟨k,hk,rfl,HR⟩:=hrel;obtain⟨w3,hw3⟩:=yM wr;subst hw3;by_cases hlt:k<an.length
       ·have hki:(k:Int)<(an.length:Int):=by omega
        obtain⟨_,_,hv,_,hr0⟩:=HA.out.below HR.out.2;simp only[gL,true_and]at hv;obtain⟨rfl,rfl⟩:=hv;obtain⟨bb,off,rfl,hbl,c0,c1,c2,c3,c4⟩:=hr0 k hlt;obtain⟨x,hx⟩:=yM (an[k]);rw[<- hx]at c0 c1 c2 c3 c4;obtain⟨wa,hwa⟩:=yM (w3.alloc (.cells (recC x).toArray 80));obtain⟨hBa,hsa,hxa⟩:=zf w3 wa x hwa;obtain⟨x0,x1,x2,x3,x4⟩:=hxa;have HWA:=qe hwa;have HX:=qe hx;have HLT:=qe hlt;have HB4:=qe (HR.out.2.trans (hBa.mono HR.out.2.size));clear hwa hx hBa hsa hr0 hbl;go_upto_region 15 with fail;rw[<- HWA.out];clear c0 c1 c2 c3 c4;go_wp2_with fail;refine(KL x _).mono ?_;rintro e w5 ⟨rfl,hB5⟩;have HB5:=qe (gm HB4.out hB5);clear hB5 x0 x1 x2 x3 x4;obtain⟨rb,hrb⟩:=yM (wi.qP x);rw[<- hrb];have HRB:=qe hrb;clear hrb
        cases rb
        ·have hr:wi.okI (wi.jL h qs an au ad)=8:=by
          have h1:=wi.YF wi.qP HLT.out HX.out HRB.out.symm;simp[wi.okI,wi.jL,h1]
         have HR:=qe hr;clear hr;go_wp2_with fail;go_ret;exact⟨qQ HR.out.symm,HB5.out⟩
        ·go_wp2_with fail
         go_roundw
         case rel=>
          repeat apply gW
          refine And.intro ?_ ?_
          rotate_left
          ·repeat (first | exact rfl | refine And.intro rfl ?_)
          exact⟨k+1,by omega,by go_num,qe ⟨wi.U8 wi.qP HLT.out HR.out.1 HX.out HRB.out.symm,HB5.out⟩⟩
         case measure=>simp[intOf];omega
       ·obtain rfl:k=an.length:=by omega
        have HAN:=qe (show an.all wi.qP=true by have:=HR.out.1;rwa [List.take_length]at this);have HBe:=qe HR.out.2;clear hlt;go_wp2_with fail
        go_roundw
        case rel=>exact⟨1,by omega,rfl,qe ⟨λ_=>HAN.out,λh=>by omega,λh=>by omega,HBe.out⟩⟩
        case measure=>simp[intOf]
    | 1,_=>
      have HBo:=qe HO.out.2.2.2;have hix:∀W:World,(Instr.index 124 (.agg #[.slice aa an.length ac,.slice ua au.length uc,.slice da ad.length dc]) (.int .i64 1)).run Tryz.prog W= .ok (.slice ua au.length uc) W:=λW=>by kernel_rfl
      have H1:=qe (HO.out.1 (by omega));go_wp2_with fail
      go_loopw [77] (λkv wr=>∃k:Nat,k<=au.length/\kv= .int .i64 (k:Int)/\Hid ((au.take k).all wi.qP=true/\Below w.heap.size w wr)) (λkv _=>au.length-(intOf kv).toNat)
      case atStart=>exact⟨0,gU _,rfl,qe ⟨rfl,HBo.out⟩⟩
      case round=>
       obtain⟨k,hk,rfl,HR⟩:=hrel;obtain⟨w3,hw3⟩:=yM wr;subst hw3;by_cases hlt:k<au.length
       ·have hki:(k:Int)<(au.length:Int):=by omega
        obtain⟨_,_,hv,_,hr0⟩:=HU.out.below HR.out.2;simp only[gL,true_and]at hv;obtain⟨rfl,rfl⟩:=hv;obtain⟨bb,off,rfl,hbl,c0,c1,c2,c3,c4⟩:=hr0 k hlt;obtain⟨x,hx⟩:=yM (au[k]);rw[<- hx]at c0 c1 c2 c3 c4;obtain⟨wa,hwa⟩:=yM (w3.alloc (.cells (recC x).toArray 80));obtain⟨hBa,hsa,hxa⟩:=zf w3 wa x hwa;obtain⟨x0,x1,x2,x3,x4⟩:=hxa;have HWA:=qe hwa;have HX:=qe hx;have HLT:=qe hlt;have HB4:=qe (HR.out.2.trans (hBa.mono HR.out.2.size));clear hwa hx hBa hsa hr0 hbl;go_upto_region 15 with fail;rw[<- HWA.out];clear c0 c1 c2 c3 c4;go_wp2_with fail;refine(KL x _).mono ?_;rintro e w5 ⟨rfl,hB5⟩;have HB5:=qe (gm HB4.out hB5);clear hB5 x0 x1 x2 x3 x4;obtain⟨rb,hrb⟩:=yM (wi.qP x);rw[<- hrb];have HRB:=qe hrb;clear hrb
        cases rb
        ·have hr:wi.okI (wi.jL h qs an au ad)=8:=by
          have h1:=wi.YF wi.qP HLT.out HX.out HRB.out.symm;simp[wi.okI,wi.jL,h1]
         have HR:=qe hr;clear hr;go_wp2_with fail;go_ret;exact⟨qQ HR.out.symm,HB5.out⟩
        ·go_wp2_with fail
         go_roundw
         case rel=>
          repeat apply gW
          refine And.intro ?_ ?_
          rotate_left
          ·repeat (first | exact rfl | refine And.intro rfl ?_)
          exact⟨k+1,by omega,by go_num,qe ⟨wi.U8 wi.qP HLT.out HR.out.1 HX.out HRB.out.symm,HB5.out⟩⟩
         case measure=>simp[intOf];omega
       ·obtain rfl:k=au.length:=by omega
        have HAU:=qe (show au.all wi.qP=true by have:=HR.out.1;rwa [List.take_length]at this);have HBe:=qe HR.out.2;clear hlt;go_wp2_with fail
        go_roundw
        case rel=>exact⟨2,by omega,rfl,qe ⟨λ_=>H1.out,λ_=>HAU.out,λh=>by omega,HBe.out⟩⟩
        case measure=>simp[intOf]
    | 2,_=>
      have HBo:=qe HO.out.2.2.2;have hix:∀W:World,(Instr.index 124 (.agg #[.slice aa an.length ac,.slice ua au.length uc,.slice da ad.length dc]) (.int .i64 2)).run Tryz.prog W= .ok (.slice da ad.length dc) W:=λW=>by kernel_rfl
      have H1:=qe (HO.out.1 (by omega));have H2:=qe (HO.out.2.1 (by omega));go_wp2_with fail
      go_loopw [77] (λkv wr=>∃k:Nat,k<=ad.length/\kv= .int .i64 (k:Int)/\Hid ((ad.take k).all wi.qP=true/\Below w.heap.size w wr)) (λkv _=>ad.length-(intOf kv).toNat)
      case atStart=>exact⟨0,gU _,rfl,qe ⟨rfl,HBo.out⟩⟩
      case round=>
       obtain⟨k,hk,rfl,HR⟩:=hrel;obtain⟨w3,hw3⟩:=yM wr;subst hw3;by_cases hlt:k<ad.length
       ·have hki:(k:Int)<(ad.length:Int):=by omega
        obtain⟨_,_,hv,_,hr0⟩:=HD.out.below HR.out.2;simp only[gL,true_and]at hv;obtain⟨rfl,rfl⟩:=hv;obtain⟨bb,off,rfl,hbl,c0,c1,c2,c3,c4⟩:=hr0 k hlt;obtain⟨x,hx⟩:=yM (ad[k]);rw[<- hx]at c0 c1 c2 c3 c4;obtain⟨wa,hwa⟩:=yM (w3.alloc (.cells (recC x).toArray 80));obtain⟨hBa,hsa,hxa⟩:=zf w3 wa x hwa;obtain⟨x0,x1,x2,x3,x4⟩:=hxa;have HWA:=qe hwa;have HX:=qe hx;have HLT:=qe hlt;have HB4:=qe (HR.out.2.trans (hBa.mono HR.out.2.size));clear hwa hx hBa hsa hr0 hbl;go_upto_region 15 with fail;rw[<- HWA.out];clear c0 c1 c2 c3 c4;go_wp2_with fail;refine(KL x _).mono ?_;rintro e w5 ⟨rfl,hB5⟩;have HB5:=qe (gm HB4.out hB5);clear hB5 x0 x1 x2 x3 x4;obtain⟨rb,hrb⟩:=yM (wi.qP x);rw[<- hrb];have HRB:=qe hrb;clear hrb
        cases rb
        ·have hr:wi.okI (wi.jL h qs an au ad)=8:=by
          have h1:=wi.YF wi.qP HLT.out HX.out HRB.out.symm;simp[wi.okI,wi.jL,h1]
         have HR:=qe hr;clear hr;go_wp2_with fail;go_ret;exact⟨qQ HR.out.symm,HB5.out⟩
        ·go_wp2_with fail
         go_roundw
         case rel=>
          repeat apply gW
          refine And.intro ?_ ?_
          rotate_left
          ·repeat (first | exact rfl | refine And.intro rfl ?_)
          exact⟨k+1,by omega,by go_num,qe ⟨wi.U8 wi.qP HLT.out HR.out.1 HX.out HRB.out.symm,HB5.out⟩⟩
         case measure=>simp[intOf];omega
       ·obtain rfl:k=ad.length:=by omega
        have HAD:=qe (show ad.all wi.qP=true by have:=HR.out.1;rwa [List.take_length]at this);have HBe:=qe HR.out.2;clear hlt;go_wp2_with fail
        go_roundw
        case rel=>exact⟨3,by omega,rfl,qe ⟨λ_=>H1.out,λ_=>H2.out,λ_=>HAD.out,HBe.out⟩⟩
        case measure=>simp[intOf]
    | 3,_=>
      have hr:wi.okI (wi.jL h qs an au ad)=0:=by
       simp[wi.okI,wi.jL,wi.hdB,HI2.out,HI3.out,HI4.out,HLEN.out,HQA.out,HO.out.1 (by omega),HO.out.2.1 (by omega),HO.out.2.2.1 (by omega)]
      have HR:=qe hr;clear hr;go_wp2_with fail;go_ret;exact⟨qQ HR.out.symm,HO.out.2.2.2⟩
namespace tr
def frI (H:List Zn)(s:Int):Nat->Int
 | 0=>-1
 | k+1=>if yD (zh H k)=s then(k:Int) else frI H s k
def Vw (H:List Zn)(s:Int):List Rec×Int:=
 if zU (yD (qR H)) s=false then([qZ (qR H)],0)
 else if 0<=frI H s H.length/\(yY H (frI H s H.length).toNat).length<=(yK (qR H)).length then(yY H (frI H s H.length).toNat,0)
 else(yK (qR H),0)
def yS (H:List Zn)(op:Int)(qs:List Qn)(au:List Rec):List Rec×Int:=
 match qs with
 | [q]=>
   if op≠0 then([],4)
   else if ¬(q.cls=1/\qG q.name (qR H).ap=true) then([],9)
   else if q.typ=252 then(yK (qR H),0)
   else if q.typ≠251 then([],5)
   else match au with
    | [x]=>if x.typ≠6\/x.data.size=0 then([],1) else Vw H (up.QQ x.data)
    | _=>([],1)
 | _=>([],1)
section
variable {H:List Zn}{op:Int}{qs:List Qn}{au:List Rec}{q:Qn}{x:Rec}
theorem row_many (h:qs.length≠1):yS H op qs au=([],1):=by
 match qs,h with
 | [],_=>rfl
 | [_],h=>exact absurd rfl h
 | _ :: _ :: _,_=>rfl
theorem row_op (h:op≠0):yS H op [q] au=([],4):=by unfold yS;exact if_pos h
theorem row_not (h:op=0)(h2:¬(q.cls=1/\qG q.name (qR H).ap=true)):yS H op [q] au=([],9):=by
 unfold yS;simp only;rw[if_neg (by simp[h]),if_pos h2]
theorem row_whole (h:op=0)(h2:q.cls=1/\qG q.name (qR H).ap=true)(h3:q.typ=252):yS H op [q] au=(yK (qR H),0):=by
 unfold yS;simp only;rw[if_neg (by simp[h]),if_neg (by simp[h2]),if_pos h3]
theorem row_other (h:op=0)(h2:q.cls=1/\qG q.name (qR H).ap=true)(h3:q.typ≠252)(h4:q.typ≠251):yS H op [q] au=([],5):=by
 unfold yS;simp only;rw[if_neg (by simp[h]),if_neg (by simp[h2]),if_neg h3,if_pos h4]
theorem row_auth (h:op=0)(h2:q.cls=1/\qG q.name (qR H).ap=true)(h4:q.typ=251)(h5:au.length≠1):yS H op [q] au=([],1):=by
 unfold yS;simp only;rw[if_neg (by simp[h]),if_neg (by simp[h2]),if_neg (by omega),if_neg (by simp[h4])]
 match au,h5 with
 | [],_=>rfl
 | [_],h=>exact absurd rfl h
 | _ :: _ :: _,_=>rfl
theorem row_bad (h:op=0)(h2:q.cls=1/\qG q.name (qR H).ap=true)(h4:q.typ=251)(h5:x.typ≠6\/x.data.size=0):yS H op [q] [x]=([],1):=by
 unfold yS;simp only;rw[if_neg (by simp[h]),if_neg (by simp[h2]),if_neg (by omega),if_neg (by simp[h4]),if_pos h5]
theorem row_step (h:op=0)(h2:q.cls=1/\qG q.name (qR H).ap=true)(h4:q.typ=251)(h5:x.typ=6)(h6:x.data.size≠0):yS H op [q] [x]=Vw H (up.QQ x.data):=by
 unfold yS;simp only;rw[if_neg (by simp[h]),if_neg (by simp[h2]),if_neg (by omega),if_neg (by simp[h4]),if_neg (by simp[h5,h6])]
end
end tr
end Go.Proofs.YtpcmilhjpmlbpaaGreatDoor
