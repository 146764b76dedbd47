import Derived.Test.YtpcmilhjpmlbpaaGreatDoorQTrP
import Derived.Deep.CutBlock
set_option maxRecDepth 100000
set_option maxHeartbeats 8000000
namespace Go.Proofs.YtpcmilhjpmlbpaaGreatDoor
open Go.RowKit Go.Shelf nm od
def Writ (w:World)(base:Nat)(v:Value)(n:Nat):Prop:=∃xs,w.ownsRow base 80 5 v n xs
theorem Writ.set {w:World}{base g n cap:Nat}(h:Writ w base (.slice (some ⟨g,0,none⟩) n cap) n)(j:Nat)(u:Value):Writ (w.setCell ⟨g,j,none⟩ u) base (.slice (some ⟨g,0,none⟩) n cap) n∧w.grownBy (w.setCell ⟨g,j,none⟩ u) (some g):=by
 obtain⟨xs,hx⟩:=h;obtain⟨h1,h2⟩:=hx.stored j u;exact⟨⟨_,h1⟩,h2⟩
theorem Writ.cells {w:World}{base g n cap:Nat}(h:Writ w base (.slice (some ⟨g,0,none⟩) n cap) n){j:Nat}(hj:j<n*5):∃u,w.cell? ⟨g,j,none⟩=some u∧w.frozen? ⟨g,j,none⟩=false:=by
 obtain⟨xs,hx⟩:=h;have h1:=hx.cellAt j hj;rw[List.getElem?_eq_getElem (by rw[hx.1];exact hj)]at h1;exact⟨_,h1,hx.frozenAt j⟩
abbrev zz:Rec:=⟨⟨#[115,112,97,114,101]⟩,-77,-77,-77,⟨#[115,112,97,114,101]⟩⟩
theorem rec_size:(Tryz.prog.info? 80).map (·.size)=some 5:=by kernel_rfl
theorem rec_ret {fn:Func}{p:Tmp}(hf:fn.results= #[.cell p 80]){R:Ending→World→Prop}{a:Act}{w:World}{g:Nat}{v0 v1 v2 v3 v4:Value}(hp:a.tmps.getD p undef= .pointer (some ⟨g,0,none⟩))
 (hd:a.defers= []) (hg:w.heap[g]? =some (.cells #[v0,v1,v2,v3,v4] 80 (0,0))) (hR:R (.returned (.agg #[v0,v1,v2,v3,v4])) w):bodyPost Tryz.prog fn R .ret a w:=
 bodyPost_ret_by (results_cell_row hf _ w g _ _ _ _ hp hg Tryz.underlying80 rfl rec_size) hd hR
theorem Z6 (w:World):Calls Tryz.prog 64 #[] w fun e w'=>e= .returned (ym zz)∧Below w.heap.size w w':=by
 go_enter Tryz.func64,Tryz.ntmps64
 go_wp2_with fail;refine rec_ret rfl rfl rfl (qz rfl) ⟨rfl,(Below.refl _ w).alloc (Nat.le_refl _) _⟩
def RTwin (l:List Rec)(w:World)(e:Ending)(w':World):Prop:=∃g cap,e= .returned (.slice (some ⟨g,0,none⟩) l.length cap)∧Below w.heap.size w w'∧w'.ownsRow w.heap.size 80 5 (.slice (some ⟨g,0,none⟩) (l.length+2) cap) (l.length+2) (qp (l ++ [zz,zz]))∧l.length+2≤cap
theorem vV (l:List Rec):∀u∈qp l,u.oneCell'=true:=fun u hu=>by
 unfold qp at hu;obtain⟨r,_,hr⟩:=List.mem_flatMap.1 hu;simp only[List.mem_cons,List.not_mem_nil,or_false]at hr;rcases hr with rfl | rfl | rfl | rfl | rfl <;> rfl
theorem UR (base g cap:Nat)(l:List Rec)(hl:l.length≤1000000000000)(lv:Value)(w:World)(hown:w.ownsRow base 80 5 (.slice (some ⟨g,0,none⟩) (l.length+2) cap) (l.length+2) (qp (l ++ [zz,zz])))(hcap:l.length+2≤cap)(hlv:qm w lv l):
 Calls Tryz.prog 44 #[.slice (some ⟨g,0,none⟩) l.length cap,lv] w fun e w'=>e= .returned (.bool true)∧Below w.heap.size w w':=by
 obtain⟨a,c,rfl,hc,_⟩:=id hlv;have hfull:qm w (.slice (some ⟨g,0,none⟩) (l.length+2) cap) (l ++ [zz,zz]):=qD (base:=base) (by rw[List.length_append];exact hown);have hown2:qm w (.slice (some ⟨g,0,none⟩) l.length cap) l:=by
  have:=Zz (k:=l.length) hfull (by rw[List.length_append];omega);rw[List.take_left]at this;exact this
 have e1:(l ++ [zz,zz])[l.length]'(by rw[List.length_append];simp)=zz:=by simp
 have e2:(l ++ [zz,zz])[l.length+1]'(by rw[List.length_append];simp)=zz:=by simp
 obtain⟨_,p0,p1,p2,p3,p4⟩:=qL hfull (j:=l.length) (by rw[List.length_append];simp);obtain⟨_,q0,q1,q2,q3,q4⟩:=qL hfull (j:=l.length+1) (by rw[List.length_append];simp);rw[e1]at p0 p1 p2 p3 p4;rw[e2]at q0 q1 q2 q3 q4;rw[Nat.zero_add]at p0 p1 p2 p3 p4 q0 q1 q2 q3 q4;have g0:=qf p0;have g1:=qf p1;have g2:=qf p2;have g3:=qf p3;have g4:=qf p4;have k0:=qf q0;have k1:=qf q1;have k2:=qf q2;have k3:=qf q3;have k4:=qf q4;have CS:Hid (∀p,Calls Tryz.prog 22 #[.slice (some ⟨g,0,none⟩) l.length cap,.slice a l.length c] (gw w p) fun e w''=>e= .returned (.bool true)∧∃p',w''=gw w p'):=qe fun p=>qV (by
  have:=Z8 l l hl _ _ (gw w p) (hown2.below (qB w p)) (hlv.below (qB w p));rw[decide_eq_true rfl]at this;exact this)
 have CP:Hid (∀p,Calls Tryz.prog 64 #[] (gw w p) fun e w''=>e= .returned (ym zz)∧∃p',w''=gw w p'):=qe fun p=>qV (Z6 _);have hcap':(l.length:Int)+2≤(cap:Int):=by omega
 have hw1:IntKind.i64.wrap ((l.length:Int)+1)=(l.length:Int)+1:=IntWalk.i64_in _ (by omega);have hw2:((l.length:Int)+2).toNat=l.length+2:=by omega
 have hb1:(0:Int)≤(l.length:Int):=by omega
 have hb2:(l.length:Int)<(l.length:Int)+2:=by omega
 have hb3:(0:Int)≤(l.length:Int)+1:=by omega
 have hb4:(l.length:Int)+1<(l.length:Int)+2:=by omega
 have hb5:((l.length:Int)+1).toNat=l.length+1:=by omega
 have HOWN:=qe hown;have HLV:=qe hlv;have HFULL:=qe hfull;have HOWN2:=qe hown2;clear hown hlv hfull hown2;clear e1 e2 p0 p1 p2 p3 p4 q0 q1 q2 q3 q4
 go_enter Tryz.func44,Tryz.ntmps44
 go_wp2_with fail;refine ql (by kernel_rfl) (by kernel_rfl) ?_
 repeat (with_reducible refine wpQuiet_step (fun K hK=>?_);go_simp;(try simp only[undef]);first | (with_reducible refine hK _ ?_;clear hK K) | (apply Exists.intro;refine⟨fun _=>?_,hK _ ?_⟩;(first | (go_at_call 22;with_reducible exact CS.out _) | (go_at_call 64;with_reducible exact CP.out _));clear hK K) | (with_reducible refine⟨fun _ h=>(by cases h),?_⟩;with_reducible refine hK _ ?_;clear hK K))
 refine wpQuiet_nil ?_
 (try simp only[show Value.tuple #[]=undef from rfl])
 intro W hW;have hBW:Below w.heap.size w W:=by obtain⟨g,rfl⟩:=hW;exact qB _ g
 clear hW;go_wp2_with fail;go_ret;exact⟨rfl,hBW⟩
open Go.WideMaps
structure Qn where
 name:ByteArray
 typ:Int
 cls:Int
@[reducible] def qnC (q:Qn):List Value:=[.string q.name,.int .i64 q.typ,.int .i64 q.cls]
def QnAt (w:World)(b off:Nat)(q:Qn):Prop:=w.cell? ⟨b,off,none⟩=some (.string q.name)∧w.cell? ⟨b,off+1,none⟩=some (.int .i64 q.typ)∧w.cell? ⟨b,off+2,none⟩=some (.int .i64 q.cls)
def yu (w:World)(v:Value)(l:List Qn):Prop:=
 ∃a cap,v= .slice a l.length cap∧l.length≤cap∧∀k (hk:k<l.length),∃b off,a=some ⟨b,off,none⟩∧b<w.heap.size∧QnAt w b (off+k*3) l[k]
theorem QnAt.keep {w w':World}{b off:Nat}{q:Qn}(h:QnAt w b off q)(hk:w'.heap[b]? =w.heap[b]?):QnAt w' b off q:=by
 have e:∀i,w'.cell? ⟨b,i,none⟩=w.cell? ⟨b,i,none⟩:=fun i=>World.cell?_of_block (w:=w) (a:=⟨b,i,none⟩) hk;exact⟨(e _).trans h.1,(e _).trans h.2.1,(e _).trans h.2.2⟩
theorem yu.below {w w':World}{v:Value}{l:List Qn}(h:yu w v l)(hb:Below w.heap.size w w'):yu w' v l:=by
 obtain⟨a,cap,hv,hc,hr⟩:=h;refine⟨a,cap,hv,hc,fun k hk=>?_⟩;obtain⟨b,off,ha,hbl,hra⟩:=hr k hk;exact⟨b,off,ha,Nat.lt_of_lt_of_le hbl hb.size,hra.keep (hb.block b hbl)⟩
theorem Vh (w w1:World)(q:Qn)(h:w1=w.alloc (.cells (qnC q).toArray 78)):Below w.heap.size w w1∧w1.heap.size=w.heap.size+1∧QnAt w1 w.heap.size 0 q:=by
 subst h;refine⟨(Below.refl _ w).alloc (Nat.le_refl _) _,by simp,?_,?_,?_⟩ <;> (rw[qh (qz rfl)];rfl)
end Go.Proofs.YtpcmilhjpmlbpaaGreatDoor
namespace Go.Proofs.YtpcmilhjpmlbpaaGreatDoor
open Go.RowKit Go.Shelf nm od
deriving instance DecidableEq for Qn
deriving instance Inhabited for Qn
structure Hd where
 id:Int
 Um:Bool
 op:Int
 aa:Bool
 tc:Bool
 rd:Bool
 ra:Bool
 ad:Bool
 cd:Bool
 jq:Int
 deriving DecidableEq,Inhabited
@[reducible] def yG (h:Hd) (q a u d:Value):List Value:=[.int .i64 h.id,.bool h.Um,.int .i64 h.op,.bool h.aa,.bool h.tc,.bool h.rd,.bool h.ra,.bool h.ad,.bool h.cd,.int .i64 h.jq,q,a,u,d]
@[reducible] def yZ (h:Hd) (q a u d:Value):Value:=.agg #[.int .i64 h.id,.bool h.Um,.int .i64 h.op,.bool h.aa,.bool h.tc,.bool h.rd,.bool h.ra,.bool h.ad,.bool h.cd,.int .i64 h.jq,q,a,u,d]
def qy (w:World)(b:Nat)(h:Hd)(q a u d:Value):Prop:=w.heap[b]? =some (.cells (yG h q a u d).toArray 33 (0,0))
theorem qy.lt {w:World}{b:Nat}{h:Hd}{q a u d:Value}(hb:qy w b h q a u d):b<w.heap.size:=qA hb
theorem qy.below {w w':World}{b:Nat}{h:Hd}{q a u d:Value}(hb:qy w b h q a u d)(hB:Below w.heap.size w w'):qy w' b h q a u d:=(hB.block b hb.lt).trans hb
theorem zC {w w1:World}{h:Hd}{q a u d:Value}(e:w1=w.alloc (.cells (yG h q a u d).toArray 33)):Below w.heap.size w w1∧w1.heap.size=w.heap.size+1∧qy w1 w.heap.size h q a u d:=by
 subst e;exact⟨(Below.refl _ w).alloc (Nat.le_refl _) _,by simp,qz rfl⟩
theorem qy.facts {w:World}{b:Nat}{h:Hd}{q a u d:Value}(hb:qy w b h q a u d):
 w.cell? ⟨b,0,none⟩=some (.int .i64 h.id)∧w.cell? ⟨b,1,none⟩=some (.bool h.Um)∧w.cell? ⟨b,2,none⟩=some (.int .i64 h.op)∧w.cell? ⟨b,3,none⟩=some (.bool h.aa)∧w.cell? ⟨b,4,none⟩=some (.bool h.tc)∧
 w.cell? ⟨b,5,none⟩=some (.bool h.rd)∧w.cell? ⟨b,6,none⟩=some (.bool h.ra)∧w.cell? ⟨b,7,none⟩=some (.bool h.ad)∧w.cell? ⟨b,8,none⟩=some (.bool h.cd)∧w.cell? ⟨b,9,none⟩=some (.int .i64 h.jq)∧
 w.cell? ⟨b,10,none⟩=some q∧w.cell? ⟨b,11,none⟩=some a∧w.cell? ⟨b,12,none⟩=some u∧w.cell? ⟨b,13,none⟩=some d:=by
 unfold qy at hb;refine⟨?_,?_,?_,?_,?_,?_,?_,?_,?_,?_,?_,?_,?_,?_⟩ <;> (rw[qh hb];rfl)
theorem qy.free {w:World}{b:Nat}{h:Hd}{q a u d:Value}(hb:qy w b h q a u d)(i:Nat):w.frozen? ⟨b,i,none⟩=false:=qE hb i
theorem head_same (h:Hd)(q a u d q' a' u' d':Value)(w:World):
 Calls Tryz.prog 42 #[yZ h q a u d,yZ h q' a' u' d'] w fun e w'=>e= .returned (.bool true)∧Below w.heap.size w w':=by
 obtain⟨i,b1,o,b3,b4,b5,b6,b7,b8,c⟩:=h;have e0:(i == i)=true:=by rw[beq_iff_eq]
 have e1:(b1 == b1)=true:=by rw[beq_iff_eq]
 have e2:(o == o)=true:=by rw[beq_iff_eq]
 have e3:(b3 == b3)=true:=by rw[beq_iff_eq]
 have e4:(b4 == b4)=true:=by rw[beq_iff_eq]
 have e5:(b5 == b5)=true:=by rw[beq_iff_eq]
 have e6:(b6 == b6)=true:=by rw[beq_iff_eq]
 have e7:(b7 == b7)=true:=by rw[beq_iff_eq]
 have e8:(b8 == b8)=true:=by rw[beq_iff_eq]
 have e9:(c == c)=true:=by rw[beq_iff_eq]
 have HB:=qe (((Below.refl _ w).alloc (Nat.le_refl _) (.cells (yG ⟨i,b1,o,b3,b4,b5,b6,b7,b8,c⟩ q a u d).toArray 33)).alloc (by simp) (.cells (yG ⟨i,b1,o,b3,b4,b5,b6,b7,b8,c⟩ q' a' u' d').toArray 33))
 go_enter Tryz.func42,Tryz.ntmps42
 go_wp2_with fail;go_ret;exact⟨rfl,HB.out⟩
theorem qn_if {α:Type}(r s:Qn)(A B:α):(if r.name.toList=s.name.toList then(if r.typ=s.typ then(if r.cls=s.cls then A else B) else B) else B)=if r=s then A else B:=by
 obtain⟨a1,a2,a3⟩:=r;obtain⟨b1,b2,b3⟩:=s;have e:∀a b:ByteArray,a.toList=b.toList↔a=b:=fun a b=>by rw[← str_eq,beq_iff_eq]
 simp only[e,Qn.mk.injEq];by_cases h1:a1=b1 <;> by_cases h2:a2=b2 <;> by_cases h3:a3=b3 <;> simp[h1,h2,h3]
theorem Ja (x:List Qn)(hx:x.length≤1000000000000)(v u:Value)(w:World)(hv:yu w v x)(hu:yu w u x):
 Calls Tryz.prog 43 #[v,u] w fun e w'=>e= .returned (.bool true)∧Below w.heap.size w w':=by
 obtain⟨a,cap,rfl,-⟩:=id hv;obtain⟨a2,cap2,rfl,-⟩:=id hu;have HV:=qe hv;have HU:=qe hu;clear hv hu
 go_enter Tryz.func43,Tryz.ntmps43
 go_wp2_with fail
 go_loopw [13,5] (fun kv _ wr=>∃k:Nat,k≤x.length∧kv= .int .i64 (k:Int)∧Below w.heap.size w wr) (fun kv _ _=>x.length-(intOf kv).toNat)
 case atStart=>exact⟨0,Nat.zero_le _,rfl,Below.refl _ _⟩
 case round=>
  obtain⟨k,hk,rfl,hB⟩:=hrel;have HB:=qe hB;by_cases hkm:k<x.length
  ·obtain⟨a',cap',hv,_,hr⟩:=yu.below HV.out hB;simp only[Value.slice.injEq]at hv;obtain⟨rfl,_,rfl⟩:=hv;obtain⟨b,off,rfl,hbl,c0,c1,c2⟩:=hr k hkm;obtain⟨a',cap',hv,_,hr2⟩:=yu.below HU.out hB;simp only[Value.slice.injEq]at hv;obtain⟨rfl,_,rfl⟩:=hv;obtain⟨b2,off2,rfl,hbl2,d0,d1,d2⟩:=hr2 k hkm;clear hr hr2 hB;go_upto_region 6 with fail;refine ql (by kernel_rfl) (by kernel_rfl) ?_;have e0:=qf c0;have e1:=qf c1;have e2:=qf c2;have f0:=qf d0;have f1:=qf d1;have f2:=qf d2
   repeat (with_reducible refine wpQuiet_step (fun K hK=>?_);go_simp;first | (with_reducible refine hK _ ?_;clear hK K))
   refine wpQuiet_nil ?_;intro W hW;have hBW:Below wr.heap.size wr W:=by obtain⟨p,rfl⟩:=hW;exact qB _ p
   have HBW:=qe (HB.out.trans (hBW.mono HB.out.size));clear hW hBW e0 e1 e2 f0 f1 f2 c0 c1 c2 d0 d1 d2;go_wp2_with fail
   go_roundw
   case rel=>exact⟨k+1,by omega,by go_num,HBW.out⟩
   case measure=>simp[intOf];omega
  ·obtain rfl:k=x.length:=by omega
   clear hkm hB;go_wp2_with fail;go_ret;exact⟨rfl,HB.out⟩
theorem Vd (x:List Rec)(hx:x.length≤1000000000000)(v u:Value)(w:World)(hv:qm w v x)(hu:qm w u x):
 Calls Tryz.prog 22 #[v,u] w fun e w'=>e= .returned (.bool true)∧Below w.heap.size w w':=by
 have h:=Z8 x x hx v u w hv hu;rw[decide_eq_true rfl]at h;exact h
theorem messages_same (h:Hd)(qs:List Qn)(an au ad:List Rec)(hq:qs.length≤1000000000000)(ha:an.length≤1000000000000)(hu:au.length≤1000000000000)(hd:ad.length≤1000000000000)(q a u d q' a' u' d':Value)(w:World)
 (q1:yu w q qs) (q2:yu w q' qs) (a1:qm w a an) (a2:qm w a' an) (u1:qm w u au) (u2:qm w u' au) (d1:qm w d ad) (d2:qm w d' ad):
 Calls Tryz.prog 19 #[yZ h q a u d,yZ h q' a' u' d'] w fun e w'=>e= .returned (.bool true)∧Below w.heap.size w w':=by
 obtain⟨w1,hw1⟩:∃X,X=w.alloc (.cells (yG h q a u d).toArray 33):=⟨_,rfl⟩;obtain⟨w2,hw2⟩:∃X,X=w1.alloc (.cells (yG h q' a' u' d').toArray 33):=⟨_,rfl⟩;obtain⟨hB1,hs1,hm1⟩:=zC hw1;obtain⟨hB2,hs2,hm2⟩:=zC hw2;have HM1:=qe (hm1.below hB2);have hB:=hB1.trans (hB2.mono hB1.size);rw[hs1]at hm2;obtain⟨x0,x1,x2,x3,x4,x5,x6,x7,x8,x9,x10,x11,x12,x13⟩:=HM1.out.facts;obtain⟨y0,y1,y2,y3,y4,y5,y6,y7,y8,y9,y10,y11,y12,y13⟩:=hm2.facts;clear hm1 hs1 hs2 hB1 hB2;have HW1:=qe hw1;have HW2:=qe hw2;have HM2:=qe hm2;have HB:=qe hB;clear hw1 hw2 hm2 hB;have HQ1:=qe q1;have HQ2:=qe q2;have HA1:=qe a1;have HA2:=qe a2;have HU1:=qe u1;have HU2:=qe u2;have HD1:=qe d1;have HD2:=qe d2;clear q1 q2 a1 a2 u1 u2 d1 d2
 go_enter Tryz.func19,Tryz.ntmps19
 go_upto_region 1 with fail;rw[← HW1.out,← HW2.out];go_wp2_with fail;refine(head_same h _ _ _ _ _ _ _ _ _).mono ?_;rintro e w3 ⟨rfl,hB3⟩;have HB3:=qe (HB.out.trans (hB3.mono HB.out.size));have HX3:=qe (HM1.out.below hB3);have HY3:=qe (HM2.out.below hB3);clear hB3 x0 x1 x2 x3 x4 x5 x6 x7 x8 x9 x10 x11 x12 x13 y0 y1 y2 y3 y4 y5 y6 y7 y8 y9 y10 y11 y12 y13;obtain⟨_,_,_,_,_,_,_,_,_,_,x10,x11,x12,x13⟩:=HX3.out.facts;obtain⟨_,_,_,_,_,_,_,_,_,_,y10,y11,y12,y13⟩:=HY3.out.facts;go_wp2_with fail;refine(Ja qs hq _ _ w3 (HQ1.out.below HB3.out) (HQ2.out.below HB3.out)).mono ?_;rintro e w4 ⟨rfl,hB4⟩;have HB4:=qe (HB3.out.trans (hB4.mono HB3.out.size));have HX4:=qe (HX3.out.below hB4);have HY4:=qe (HY3.out.below hB4);clear hB4 x10 x11 x12 x13 y10 y11 y12 y13;obtain⟨_,_,_,_,_,_,_,_,_,_,x10,x11,x12,x13⟩:=HX4.out.facts;obtain⟨_,_,_,_,_,_,_,_,_,_,y10,y11,y12,y13⟩:=HY4.out.facts;go_wp2_with fail;refine(Vd an ha _ _ w4 (HA1.out.below HB4.out) (HA2.out.below HB4.out)).mono ?_;rintro e w5 ⟨rfl,hB5⟩;have HB5:=qe (HB4.out.trans (hB5.mono HB4.out.size));have HX5:=qe (HX4.out.below hB5);have HY5:=qe (HY4.out.below hB5);clear hB5 x10 x11 x12 x13 y10 y11 y12 y13;obtain⟨_,_,_,_,_,_,_,_,_,_,x10,x11,x12,x13⟩:=HX5.out.facts;obtain⟨_,_,_,_,_,_,_,_,_,_,y10,y11,y12,y13⟩:=HY5.out.facts;go_wp2_with fail;refine(Vd au hu _ _ w5 (HU1.out.below HB5.out) (HU2.out.below HB5.out)).mono ?_;rintro e w6 ⟨rfl,hB6⟩;have HB6:=qe (HB5.out.trans (hB6.mono HB5.out.size));have HX6:=qe (HX5.out.below hB6);have HY6:=qe (HY5.out.below hB6);clear hB6 x10 x11 x12 x13 y10 y11 y12 y13;obtain⟨_,_,_,_,_,_,_,_,_,_,x10,x11,x12,x13⟩:=HX6.out.facts;obtain⟨_,_,_,_,_,_,_,_,_,_,y10,y11,y12,y13⟩:=HY6.out.facts;go_wp2_with fail;refine(Vd ad hd _ _ w6 (HD1.out.below HB6.out) (HD2.out.below HB6.out)).mono ?_;rintro e w7 ⟨rfl,hB7⟩;have HB7:=qe (HB6.out.trans (hB7.mono HB6.out.size));clear hB7;go_wp2_with fail;go_ret;exact⟨rfl,HB7.out⟩
namespace wi
def qnB (q:Qn):Bool:=qo q.name && inB q.typ 65535 && inB q.cls 65535
def hdB (h:Hd):Bool:=inB h.id 65535 && inB h.op 15 && inB h.jq 15
def lenB (qs:List Qn)(an au ad:List Rec):Bool:=decide (qs.length≤65535∧an.length≤65535∧au.length≤65535∧ad.length≤65535)
def jE (h:Hd)(qs:List Qn)(an au ad:List Rec):Bool:=hdB h && lenB qs an au ad && qs.all qnB && an.all qR && au.all qR && ad.all qR
def okI (b:Bool):Int:=if b=true then 0 else 8
theorem Jy {α:Type}(f:α→Bool){l:List α}{k:Nat}(h:k<l.length):(l.take (k+1)).all f=((l.take k).all f && f l[k]):=by
 rw[List.take_succ_eq_append_getElem h,List.all_append];simp
theorem all_bad {α:Type}(f:α→Bool){l:List α}{k:Nat}(h:k<l.length)(hf:f l[k]=false):l.all f=false:=by
 rw[List.all_eq_false];exact⟨l[k],List.getElem_mem h,by rw[hf];simp⟩
theorem UJ {α:Type}(f:α→Bool){l:List α}{k:Nat}{x:α}(h:k<l.length)(ht:(l.take k).all f=true)(hx:x=l[k])(hf:f x=true):(l.take (k+1)).all f=true:=by
 subst hx;rw[Jy f h,ht,hf];rfl
theorem Yu {α:Type}(f:α→Bool){l:List α}{k:Nat}{x:α}(h:k<l.length)(hx:x=l[k])(hf:f x=false):l.all f=false:=by
 subst hx;exact all_bad f h hf
end wi
theorem run_max4 (ts:Array TypeId)(t:TypeId)(a b c d:Int)(w:World):∃M,(Builtin.max_ ts t #[.int .i64 a,.int .i64 b,.int .i64 c,.int .i64 d]).run Tryz.prog w= .ok (.int .i64 M) w∧(65535<M↔65535<a∨65535<b∨65535<c∨65535<d):=by
 obtain⟨m2,hm2⟩:∃m,m=if b > a then b else a:=⟨_,rfl⟩
 obtain⟨m3,hm3⟩:∃m,m=if c > m2 then c else m2:=⟨_,rfl⟩
 refine⟨if d > m3 then d else m3,?_,?_⟩
 ·rw[hm3,hm2];simp[Builtin.max_,Builtin.max2]
 ·rw[hm3,hm2]
  repeat' split
  all_goals omega
theorem XQ (h:Hd)(qs:List Qn)(an au ad:List Rec)(hq:qs.length≤1000000000000)(ha:an.length≤1000000000000)(hu:au.length≤1000000000000)(hd:ad.length≤1000000000000)(q a u d:Value)(w:World)
 (rq:yu w q qs) (ra:qm w a an) (ru:qm w u au) (rd:qm w d ad):
 Calls Tryz.prog 34 #[yZ h q a u d] w fun e w'=>e= .returned (.int .i64 (wi.okI (wi.jE h qs an au ad)))∧Below w.heap.size w w':=by
 obtain⟨w1,hw1⟩:∃X,X=w.alloc (.cells (yG h q a u d).toArray 33):=⟨_,rfl⟩;obtain⟨hB1,hs1,hm1⟩:=zC hw1;have HQ:=qe rq;have HA:=qe ra;have HU:=qe ru;have HD:=qe rd;obtain⟨qa,qc,rfl,-⟩:=id rq;obtain⟨aa,ac,rfl,-⟩:=id ra;obtain⟨ua,uc,rfl,-⟩:=id ru;obtain⟨da,dc,rfl,-⟩:=id rd;obtain⟨x0,x1,x2,x3,x4,x5,x6,x7,x8,x9,x10,x11,x12,x13⟩:=hm1.facts;have HW1:=qe hw1;have HB1:=qe hB1;have HM1:=qe hm1;clear hw1 hB1 hm1;clear hs1 rq ra ru rd
 go_enter Tryz.func34,Tryz.ntmps34
 go_upto_region 1 with fail;rw[← HW1.out];go_wp2_with fail;refine(Jj _ _ _).mono ?_;rintro e w2 ⟨rfl,rfl⟩;obtain⟨b2,hb2⟩:∃b,b=wi.inB h.id 65535:=⟨_,rfl⟩;rw[← hb2]
 cases b2
 ·have hr:wi.okI (wi.jE h qs an au ad)=8:=by simp[wi.okI,wi.jE,wi.hdB,← hb2]
  clear hb2;have HR:=qe hr;clear hr;go_wp2_with fail;go_ret;exact⟨qQ HR.out.symm,HB1.out⟩
 have HI2:=qe hb2.symm;clear hb2;go_wp2_with fail;refine(Jj _ _ _).mono ?_;rintro e w3 ⟨rfl,rfl⟩;obtain⟨b3,hb3⟩:∃b,b=wi.inB h.op 15:=⟨_,rfl⟩;rw[← hb3]
 cases b3
 ·have hr:wi.okI (wi.jE h qs an au ad)=8:=by simp[wi.okI,wi.jE,wi.hdB,← hb3]
  clear hb3;have HR:=qe hr;clear hr;go_wp2_with fail;go_ret;exact⟨qQ HR.out.symm,HB1.out⟩
 have HI3:=qe hb3.symm;clear hb3;go_wp2_with fail;refine(Jj _ _ _).mono ?_;rintro e w4 ⟨rfl,rfl⟩;obtain⟨b4,hb4⟩:∃b,b=wi.inB h.jq 15:=⟨_,rfl⟩;rw[← hb4]
 cases b4
 ·have hr:wi.okI (wi.jE h qs an au ad)=8:=by simp[wi.okI,wi.jE,wi.hdB,← hb4]
  clear hb4;have HR:=qe hr;clear hr;go_wp2_with fail;go_ret;exact⟨qQ HR.out.symm,HB1.out⟩
 have HI4:=qe hb4.symm;clear hb4;obtain⟨M,hmax,hM⟩:=run_max4 #[3,3,3,3] 3 (qs.length:Int) (an.length:Int) (au.length:Int) (ad.length:Int) w1;by_cases hlen:65535<M
 ·have d1:decide (65535<M)=true:=decide_eq_true hlen;have hr:wi.okI (wi.jE h qs an au ad)=8:=by
   have h1:wi.lenB qs an au ad=false:=decide_eq_false fun h=>by omega
   simp[wi.okI,wi.jE,h1]
  clear hM hlen;have HR:=qe hr;clear hr;go_wp2_with fail;go_ret;exact⟨qQ HR.out.symm,HB1.out⟩
 have d1:decide (65535<M)=false:=decide_eq_false hlen;have HLEN:=qe (show wi.lenB qs an au ad=true from decide_eq_true (by omega));clear hM hlen;go_wp2_with fail
 go_loopw [44] (fun kv wr=>∃k:Nat,k≤qs.length∧kv= .int .i64 (k:Int)∧Hid ((qs.take k).all wi.qnB=true∧Below w1.heap.size w1 wr)) (fun kv _=>qs.length-(intOf kv).toNat)
 case atStart=>exact⟨0,Nat.zero_le _,rfl,qe ⟨rfl,Below.refl _ _⟩⟩
 case round=>
  obtain⟨k,hk,rfl,HR⟩:=hrel;obtain⟨w3,hw3⟩:∃X:World,X=wr:=⟨_,rfl⟩;subst hw3;have HB3:=qe (HB1.out.trans (HR.out.2.mono HB1.out.size));by_cases hlt:k<qs.length
  ·have hki:(k:Int)<(qs.length:Int):=by omega
   obtain⟨_,_,hv,_,hr0⟩:=yu.below HQ.out HB3.out;simp only[Value.slice.injEq,true_and]at hv;obtain⟨rfl,rfl⟩:=hv;obtain⟨bb,off,rfl,hbl,c0,c1,c2⟩:=hr0 k hlt;obtain⟨x,hx⟩:∃x,x=qs[k]:=⟨_,rfl⟩;rw[← hx]at c0 c1 c2;obtain⟨wa,hwa⟩:∃W,W=w3.alloc (.cells (qnC x).toArray 78):=⟨_,rfl⟩;obtain⟨hBa,hsa,hxa⟩:=Vh w3 wa x hwa;obtain⟨bx,hbx⟩:∃b,b=w3.heap.size:=⟨_,rfl⟩;rw[← hbx]at hxa;have UA:bx<wa.heap.size:=by omega
   obtain⟨y0,y1,y2⟩:=id hxa;simp only[Nat.zero_add]at y1 y2;have HWA:=qe hwa;have HX:=qe hx;have HLT:=qe hlt;have HXA:=qe hxa;have JE:=qe UA;have HBX:=qe hbx;have HB4:=qe (HB3.out.trans (hBa.mono HB3.out.size));have HC4:=qe (HR.out.2.trans (hBa.mono HR.out.2.size));clear hwa hx hBa hsa hr0 hbl hxa UA hbx;go_upto_region 6 with fail;rw[← HWA.out,← HBX.out];clear c0 c1 c2;go_wp2_with fail;refine(zt _ _).mono ?_;rintro e w5 ⟨rfl,hB5⟩;obtain⟨z0,z1,z2⟩:=HXA.out.keep (hB5.block bx JE.out);simp only[Nat.zero_add]at z1 z2;have HB5:=qe (HB4.out.trans (hB5.mono HB4.out.size));have HC5:=qe (HC4.out.trans (hB5.mono HC4.out.size));clear hB5 y0 y1 y2
   cases hc:qo x.name
   ·have hr:wi.okI (wi.jE h qs an au ad)=8:=by
     have h1:=wi.Yu wi.qnB HLT.out HX.out (by simp[wi.qnB,hc]);simp[wi.okI,wi.jE,h1]
    rw[Yf];clear hc;have HR:=qe hr;clear hr;go_wp2_with fail;go_ret;exact⟨qQ HR.out.symm,HB5.out⟩
   ·rw[vK];have HC:=qe hc;clear hc;go_wp2_with fail;refine(Jj _ _ _).mono ?_;rintro e w6 ⟨rfl,rfl⟩;obtain⟨b6,hb6⟩:∃b,b=wi.inB x.typ 65535:=⟨_,rfl⟩;rw[← hb6]
    cases b6
    ·have hr:wi.okI (wi.jE h qs an au ad)=8:=by
      have h1:=wi.Yu wi.qnB HLT.out HX.out (by simp[wi.qnB,← hb6]);simp[wi.okI,wi.jE,h1]
     clear hb6;have HR:=qe hr;clear hr;go_wp2_with fail;go_ret;exact⟨qQ HR.out.symm,HB5.out⟩
    have HI6:=qe hb6.symm;clear hb6;go_wp2_with fail;refine(Jj _ _ _).mono ?_;rintro e w7 ⟨rfl,rfl⟩;obtain⟨b7,hb7⟩:∃b,b=wi.inB x.cls 65535:=⟨_,rfl⟩;rw[← hb7]
    cases b7
    ·have hr:wi.okI (wi.jE h qs an au ad)=8:=by
      have h1:=wi.Yu wi.qnB HLT.out HX.out (by simp[wi.qnB,← hb7]);simp[wi.okI,wi.jE,h1]
     clear hb7;have HR:=qe hr;clear hr;go_wp2_with fail;go_ret;exact⟨qQ HR.out.symm,HB5.out⟩
    have HI7:=qe hb7.symm;clear hb7;have HQB:=qe (wi.UJ wi.qnB HLT.out HR.out.1 HX.out (by simp[wi.qnB,HC.out,HI6.out,HI7.out]));go_wp2_with fail
    go_roundw
    case rel=>exact⟨k+1,by omega,by go_num,qe ⟨HQB.out,HC5.out⟩⟩
    case measure=>simp[intOf];omega
  ·obtain rfl:k=qs.length:=by omega
   have HQA:=qe (show qs.all wi.qnB=true by have:=HR.out.1;rwa [List.take_length]at this);obtain⟨y0,y1,y2,y3,y4,y5,y6,y7,y8,y9,y10,y11,y12,y13⟩:=(HM1.out.below HR.out.2).facts;clear hlt x0 x1 x2 x3 x4 x5 x6 x7 x8 x9 x10 x11 x12 x13;go_wp2_with fail;clear y0 y1 y2 y3 y4 y5 y6 y7 y8 y9 y10 y11 y12 y13
   go_loopw [72] (fun jv wr=>∃j:Nat,j≤3∧jv= .int .i64 (j:Int)∧Hid ((1≤j→an.all wi.qR=true)∧(2≤j→au.all wi.qR=true)∧(3≤j→ad.all wi.qR=true)∧Below w.heap.size w wr)) (fun jv _=>3-(intOf jv).toNat)
   case atStart=>exact⟨0,by omega,rfl,qe ⟨fun h=>by omega,fun h=>by omega,fun h=>by omega,HB3.out⟩⟩
   case round=>
    obtain⟨j,hj,rfl,HO⟩:=hrel;obtain⟨wo,hwo⟩:∃X:World,X=wr:=⟨_,rfl⟩;subst hwo
    match j,hj with
    | 0,_=>
      have HBo:=qe HO.out.2.2.2;have hix:∀W:World,(Instr.index 124 (.agg #[.slice aa an.length ac,.slice ua au.length uc,.slice da ad.length dc]) (.int .i64 0)).run Tryz.prog W= .ok (.slice aa an.length ac) W:=fun W=>by kernel_rfl
      go_wp2_with fail
      go_loopw [77] (fun kv wr=>∃k:Nat,k≤an.length∧kv= .int .i64 (k:Int)∧Hid ((an.take k).all wi.qR=true∧Below w.heap.size w wr)) (fun kv _=>an.length-(intOf kv).toNat)
      case atStart=>exact⟨0,Nat.zero_le _,rfl,qe ⟨rfl,HBo.out⟩⟩
      case round=>
       obtain⟨k,hk,rfl,HR⟩:=hrel;obtain⟨w3,hw3⟩:∃X:World,X=wr:=⟨_,rfl⟩;subst hw3;by_cases hlt:k<an.length
       ·have hki:(k:Int)<(an.length:Int):=by omega
        obtain⟨_,_,hv,_,hr0⟩:=HA.out.below HR.out.2;simp only[Value.slice.injEq,true_and]at hv;obtain⟨rfl,rfl⟩:=hv;obtain⟨bb,off,rfl,hbl,c0,c1,c2,c3,c4⟩:=hr0 k hlt;obtain⟨x,hx⟩:∃x,x=an[k]:=⟨_,rfl⟩;rw[← hx]at c0 c1 c2 c3 c4;obtain⟨wa,hwa⟩:∃W,W=w3.alloc (.cells (recC x).toArray 80):=⟨_,rfl⟩;obtain⟨hBa,hsa,hxa⟩:=qY w3 wa x hwa;obtain⟨x0,x1,x2,x3,x4⟩:=hxa;have HWA:=qe hwa;have HX:=qe hx;have HLT:=qe hlt;have HB4:=qe (HR.out.2.trans (hBa.mono HR.out.2.size));clear hwa hx hBa hsa hr0 hbl;go_upto_region 15 with fail;rw[← HWA.out];clear c0 c1 c2 c3 c4;go_wp2_with fail;refine(Ku x _).mono ?_;rintro e w5 ⟨rfl,hB5⟩;have HB5:=qe (HB4.out.trans (hB5.mono HB4.out.size));clear hB5 x0 x1 x2 x3 x4;obtain⟨rb,hrb⟩:∃rb,rb=wi.qR x:=⟨_,rfl⟩;rw[← hrb];have HRB:=qe hrb;clear hrb
        cases rb
        ·have hr:wi.okI (wi.jE h qs an au ad)=8:=by
          have h1:=wi.Yu wi.qR HLT.out HX.out HRB.out.symm;simp[wi.okI,wi.jE,h1]
         have HR:=qe hr;clear hr;go_wp2_with fail;go_ret;exact⟨qQ HR.out.symm,HB5.out⟩
        ·go_wp2_with fail
         go_roundw
         case rel=>
          repeat apply Exists.intro
          refine And.intro ?_ ?_
          rotate_left
          ·repeat (first | exact rfl | refine And.intro rfl ?_)
          exact⟨k+1,by omega,by go_num,qe ⟨wi.UJ wi.qR HLT.out HR.out.1 HX.out HRB.out.symm,HB5.out⟩⟩
         case measure=>simp[intOf];omega
       ·obtain rfl:k=an.length:=by omega
        have HAN:=qe (show an.all wi.qR=true by have:=HR.out.1;rwa [List.take_length]at this);have HBe:=qe HR.out.2;clear hlt;go_wp2_with fail
        go_roundw
        case rel=>exact⟨1,by omega,rfl,qe ⟨fun _=>HAN.out,fun h=>by omega,fun h=>by omega,HBe.out⟩⟩
        case measure=>simp[intOf]
    | 1,_=>
      have HBo:=qe HO.out.2.2.2;have hix:∀W:World,(Instr.index 124 (.agg #[.slice aa an.length ac,.slice ua au.length uc,.slice da ad.length dc]) (.int .i64 1)).run Tryz.prog W= .ok (.slice ua au.length uc) W:=fun W=>by kernel_rfl
      have H1:=qe (HO.out.1 (by omega));go_wp2_with fail
      go_loopw [77] (fun kv wr=>∃k:Nat,k≤au.length∧kv= .int .i64 (k:Int)∧Hid ((au.take k).all wi.qR=true∧Below w.heap.size w wr)) (fun kv _=>au.length-(intOf kv).toNat)
      case atStart=>exact⟨0,Nat.zero_le _,rfl,qe ⟨rfl,HBo.out⟩⟩
      case round=>
       obtain⟨k,hk,rfl,HR⟩:=hrel;obtain⟨w3,hw3⟩:∃X:World,X=wr:=⟨_,rfl⟩;subst hw3;by_cases hlt:k<au.length
       ·have hki:(k:Int)<(au.length:Int):=by omega
        obtain⟨_,_,hv,_,hr0⟩:=HU.out.below HR.out.2;simp only[Value.slice.injEq,true_and]at hv;obtain⟨rfl,rfl⟩:=hv;obtain⟨bb,off,rfl,hbl,c0,c1,c2,c3,c4⟩:=hr0 k hlt;obtain⟨x,hx⟩:∃x,x=au[k]:=⟨_,rfl⟩;rw[← hx]at c0 c1 c2 c3 c4;obtain⟨wa,hwa⟩:∃W,W=w3.alloc (.cells (recC x).toArray 80):=⟨_,rfl⟩;obtain⟨hBa,hsa,hxa⟩:=qY w3 wa x hwa;obtain⟨x0,x1,x2,x3,x4⟩:=hxa;have HWA:=qe hwa;have HX:=qe hx;have HLT:=qe hlt;have HB4:=qe (HR.out.2.trans (hBa.mono HR.out.2.size));clear hwa hx hBa hsa hr0 hbl;go_upto_region 15 with fail;rw[← HWA.out];clear c0 c1 c2 c3 c4;go_wp2_with fail;refine(Ku x _).mono ?_;rintro e w5 ⟨rfl,hB5⟩;have HB5:=qe (HB4.out.trans (hB5.mono HB4.out.size));clear hB5 x0 x1 x2 x3 x4;obtain⟨rb,hrb⟩:∃rb,rb=wi.qR x:=⟨_,rfl⟩;rw[← hrb];have HRB:=qe hrb;clear hrb
        cases rb
        ·have hr:wi.okI (wi.jE h qs an au ad)=8:=by
          have h1:=wi.Yu wi.qR HLT.out HX.out HRB.out.symm;simp[wi.okI,wi.jE,h1]
         have HR:=qe hr;clear hr;go_wp2_with fail;go_ret;exact⟨qQ HR.out.symm,HB5.out⟩
        ·go_wp2_with fail
         go_roundw
         case rel=>
          repeat apply Exists.intro
          refine And.intro ?_ ?_
          rotate_left
          ·repeat (first | exact rfl | refine And.intro rfl ?_)
          exact⟨k+1,by omega,by go_num,qe ⟨wi.UJ wi.qR HLT.out HR.out.1 HX.out HRB.out.symm,HB5.out⟩⟩
         case measure=>simp[intOf];omega
       ·obtain rfl:k=au.length:=by omega
        have HAU:=qe (show au.all wi.qR=true by have:=HR.out.1;rwa [List.take_length]at this);have HBe:=qe HR.out.2;clear hlt;go_wp2_with fail
        go_roundw
        case rel=>exact⟨2,by omega,rfl,qe ⟨fun _=>H1.out,fun _=>HAU.out,fun h=>by omega,HBe.out⟩⟩
        case measure=>simp[intOf]
    | 2,_=>
      have HBo:=qe HO.out.2.2.2;have hix:∀W:World,(Instr.index 124 (.agg #[.slice aa an.length ac,.slice ua au.length uc,.slice da ad.length dc]) (.int .i64 2)).run Tryz.prog W= .ok (.slice da ad.length dc) W:=fun W=>by kernel_rfl
      have H1:=qe (HO.out.1 (by omega));have H2:=qe (HO.out.2.1 (by omega));go_wp2_with fail
      go_loopw [77] (fun kv wr=>∃k:Nat,k≤ad.length∧kv= .int .i64 (k:Int)∧Hid ((ad.take k).all wi.qR=true∧Below w.heap.size w wr)) (fun kv _=>ad.length-(intOf kv).toNat)
      case atStart=>exact⟨0,Nat.zero_le _,rfl,qe ⟨rfl,HBo.out⟩⟩
      case round=>
       obtain⟨k,hk,rfl,HR⟩:=hrel;obtain⟨w3,hw3⟩:∃X:World,X=wr:=⟨_,rfl⟩;subst hw3;by_cases hlt:k<ad.length
       ·have hki:(k:Int)<(ad.length:Int):=by omega
        obtain⟨_,_,hv,_,hr0⟩:=HD.out.below HR.out.2;simp only[Value.slice.injEq,true_and]at hv;obtain⟨rfl,rfl⟩:=hv;obtain⟨bb,off,rfl,hbl,c0,c1,c2,c3,c4⟩:=hr0 k hlt;obtain⟨x,hx⟩:∃x,x=ad[k]:=⟨_,rfl⟩;rw[← hx]at c0 c1 c2 c3 c4;obtain⟨wa,hwa⟩:∃W,W=w3.alloc (.cells (recC x).toArray 80):=⟨_,rfl⟩;obtain⟨hBa,hsa,hxa⟩:=qY w3 wa x hwa;obtain⟨x0,x1,x2,x3,x4⟩:=hxa;have HWA:=qe hwa;have HX:=qe hx;have HLT:=qe hlt;have HB4:=qe (HR.out.2.trans (hBa.mono HR.out.2.size));clear hwa hx hBa hsa hr0 hbl;go_upto_region 15 with fail;rw[← HWA.out];clear c0 c1 c2 c3 c4;go_wp2_with fail;refine(Ku x _).mono ?_;rintro e w5 ⟨rfl,hB5⟩;have HB5:=qe (HB4.out.trans (hB5.mono HB4.out.size));clear hB5 x0 x1 x2 x3 x4;obtain⟨rb,hrb⟩:∃rb,rb=wi.qR x:=⟨_,rfl⟩;rw[← hrb];have HRB:=qe hrb;clear hrb
        cases rb
        ·have hr:wi.okI (wi.jE h qs an au ad)=8:=by
          have h1:=wi.Yu wi.qR HLT.out HX.out HRB.out.symm;simp[wi.okI,wi.jE,h1]
         have HR:=qe hr;clear hr;go_wp2_with fail;go_ret;exact⟨qQ HR.out.symm,HB5.out⟩
        ·go_wp2_with fail
         go_roundw
         case rel=>
          repeat apply Exists.intro
          refine And.intro ?_ ?_
          rotate_left
          ·repeat (first | exact rfl | refine And.intro rfl ?_)
          exact⟨k+1,by omega,by go_num,qe ⟨wi.UJ wi.qR HLT.out HR.out.1 HX.out HRB.out.symm,HB5.out⟩⟩
         case measure=>simp[intOf];omega
       ·obtain rfl:k=ad.length:=by omega
        have HAD:=qe (show ad.all wi.qR=true by have:=HR.out.1;rwa [List.take_length]at this);have HBe:=qe HR.out.2;clear hlt;go_wp2_with fail
        go_roundw
        case rel=>exact⟨3,by omega,rfl,qe ⟨fun _=>H1.out,fun _=>H2.out,fun _=>HAD.out,HBe.out⟩⟩
        case measure=>simp[intOf]
    | 3,_=>
      have hr:wi.okI (wi.jE h qs an au ad)=0:=by
       simp[wi.okI,wi.jE,wi.hdB,HI2.out,HI3.out,HI4.out,HLEN.out,HQA.out,HO.out.1 (by omega),HO.out.2.1 (by omega),HO.out.2.2.1 (by omega)]
      have HR:=qe hr;clear hr;go_wp2_with fail;go_ret;exact⟨qQ HR.out.symm,HO.out.2.2.2⟩
namespace tr
def frI (H:List Zn)(s:Int):Nat→Int
 | 0=>-1
 | k+1=>if yA (q8 H k)=s then(k:Int) else frI H s k
theorem fr_cases (H:List Zn)(s:Int):∀k,frI H s k= -1∨∃j:Nat,j<k∧frI H s k=(j:Int)
 | 0=>.inl rfl
 | k+1=>by
   unfold frI
   split
   ·exact .inr ⟨k,by omega,rfl⟩
   ·rcases fr_cases H s k with h | ⟨j,hj,h⟩
    ·exact .inl h
    ·exact .inr ⟨j,by omega,h⟩
def J4 (H:List Zn)(s:Int):List Rec×Int:=
 if zR (yA (qN H)) s=false then([ze (qN H)],0)
 else if 0≤frI H s H.length∧(zF H (frI H s H.length).toNat).length≤(zX (qN H)).length then(zF H (frI H s H.length).toNat,0)
 else(zX (qN H),0)
def zL (H:List Zn)(op:Int)(qs:List Qn)(au:List Rec):List Rec×Int:=
 match qs with
 | [q]=>
   if op≠0 then([],4)
   else if ¬(q.cls=1∧qF q.name (qN H).ap=true) then([],9)
   else if q.typ=252 then(zX (qN H),0)
   else if q.typ≠251 then([],5)
   else match au with
    | [x]=>if x.typ≠6∨x.data.size=0 then([],1) else J4 H (up.QI x.data)
    | _=>([],1)
 | _=>([],1)
section
variable {H:List Zn}{op:Int}{qs:List Qn}{au:List Rec}{q:Qn}{x:Rec}
theorem row_many (h:qs.length≠1):zL H op qs au=([],1):=by
 match qs,h with
 | [],_=>rfl
 | [_],h=>exact absurd rfl h
 | _ :: _ :: _,_=>rfl
theorem row_op (h:op≠0):zL H op [q] au=([],4):=by unfold zL;exact if_pos h
theorem XF (h:op=0)(h2:¬(q.cls=1∧qF q.name (qN H).ap=true)):zL H op [q] au=([],9):=by
 unfold zL;simp only;rw[if_neg (by simp[h]),if_pos h2]
theorem Va (h:op=0)(h2:q.cls=1∧qF q.name (qN H).ap=true)(h3:q.typ=252):zL H op [q] au=(zX (qN H),0):=by
 unfold zL;simp only;rw[if_neg (by simp[h]),if_neg (by simp[h2]),if_pos h3]
theorem row_other (h:op=0)(h2:q.cls=1∧qF q.name (qN H).ap=true)(h3:q.typ≠252)(h4:q.typ≠251):zL H op [q] au=([],5):=by
 unfold zL;simp only;rw[if_neg (by simp[h]),if_neg (by simp[h2]),if_neg h3,if_pos h4]
theorem row_auth (h:op=0)(h2:q.cls=1∧qF q.name (qN H).ap=true)(h4:q.typ=251)(h5:au.length≠1):zL H op [q] au=([],1):=by
 unfold zL;simp only;rw[if_neg (by simp[h]),if_neg (by simp[h2]),if_neg (by omega),if_neg (by simp[h4])]
 match au,h5 with
 | [],_=>rfl
 | [_],h=>exact absurd rfl h
 | _ :: _ :: _,_=>rfl
theorem XG (h:op=0)(h2:q.cls=1∧qF q.name (qN H).ap=true)(h4:q.typ=251)(h5:x.typ≠6∨x.data.size=0):zL H op [q] [x]=([],1):=by
 unfold zL;simp only;rw[if_neg (by simp[h]),if_neg (by simp[h2]),if_neg (by omega),if_neg (by simp[h4]),if_pos h5]
theorem row_step (h:op=0)(h2:q.cls=1∧qF q.name (qN H).ap=true)(h4:q.typ=251)(h5:x.typ=6)(h6:x.data.size≠0):zL H op [q] [x]=J4 H (up.QI x.data):=by
 unfold zL;simp only;rw[if_neg (by simp[h]),if_neg (by simp[h2]),if_neg (by omega),if_neg (by simp[h4]),if_neg (by simp[h5,h6])]
end
end tr
end Go.Proofs.YtpcmilhjpmlbpaaGreatDoor
