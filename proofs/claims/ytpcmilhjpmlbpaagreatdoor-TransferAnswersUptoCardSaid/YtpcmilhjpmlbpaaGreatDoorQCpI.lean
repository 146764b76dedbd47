import Derived.Test.YtpcmilhjpmlbpaaGreatDoorQCpN
import Derived.Deep.RegionHeld3
import Derived.Deep.CutBlock
set_option maxRecDepth 100000
set_option maxHeartbeats 16000000
namespace Go.Proofs.YtpcmilhjpmlbpaaGreatDoor
open Go.RowKit Go.Shelf Go.WideMaps nm od
def Safe (lo hi:Nat)(w:World)(z y:Nat)(Z:tr.Zn):Prop:=∀W':World,w.heap.size≤W'.heap.size→(∀b,lo≤b→b<hi→W'.heap[b]? =w.heap[b]?)→(jA W' W'.heap.size z Z.ap Z.l)∧xA W' y Z.ap Z.l
theorem Safe.next {lo hi:Nat}{w w':World}{z y:Nat}{Z:tr.Zn}(h:Safe lo hi w z y Z)(hs:w.heap.size≤w'.heap.size)(hk:∀b,lo≤b→b<hi→w'.heap[b]? =w.heap[b]?):Safe lo hi w' z y Z:=
 fun W' h1 h2=>h W' (Nat.le_trans hs h1) fun b h3 h4=>(h2 b h3 h4).trans (hk b h3 h4)
theorem Safe.now {lo hi:Nat}{w:World}{z y:Nat}{Z:tr.Zn}(h:Safe lo hi w z y Z):jA w w.heap.size z Z.ap Z.l∧xA w y Z.ap Z.l:=h w (Nat.le_refl _) fun _ _ _=>rfl
def BothPost (qg:ByteArray)(l:List Rec)(w:World)(e:Ending)(w':World):Prop:=Below w.heap.size w w'∧
 ((zn.yO qg l≠none∧e= .returned (.tuple #[.pointer none,.pointer none,.bool true]))∨
   (zn.yO qg l=none∧∃z y L,zS l L∧zn.Valid qg L∧e= .returned (.tuple #[qW z,qW y,.bool true])∧Safe w.heap.size w'.heap.size w' z y ⟨qg,L⟩))
theorem both7_any (qg:ByteArray)(hap:qg.size≤1099511627776)(l:List Rec)(hok:∀r∈l,(Lit.int .i64 r.typ).wf=true)(hsz:∀r∈l,r.owner.size≤1099511627776)(v:Value)(hf:yt v)(w:World)(hrv:qm w v l):
 Calls Tryz.prog 16 #[.agg #[.string qg,v]] w fun e w'=>BothPost qg l w e w':=by
 obtain⟨a,cap,rfl,-⟩:=id hrv;obtain⟨w1,hw1⟩:∃X,X=w.alloc (.cells #[.string qg,.slice a l.length cap] 42):=⟨_,rfl⟩;obtain⟨b1,hb1⟩:∃b,b=w.heap.size:=⟨_,rfl⟩;have hB1:Below w.heap.size w w1:=by rw[hw1];exact(Below.refl _ _).alloc (Nat.le_refl _) _
 have hn1:w1.heap[b1]? =some (.cells #[.string qg,.slice a l.length cap] 42 (0,0)):=by rw[hw1,hb1];exact qz rfl
 have zD:=qe (show ∀X,Below w1.heap.size w1 X→X.cell? ⟨b1,0,none⟩=some (.string qg)∧X.cell? ⟨b1,1,none⟩=some (.slice a l.length cap) from fun X hX=>by
  have h1:=(hX.block b1 (qA hn1)).trans hn1;exact⟨by rw[qh h1];rfl,by rw[qh h1];rfl⟩)
 have HNW:=qe (new_anyB qg l hok _ hf w1 (hrv.below hB1));have HMK:=qe (show ∀X,Below w1.heap.size w1 X→Calls Tryz.prog 46 #[.string qg,.slice a l.length cap] X fun e w'=>xV qg l X e w' from fun X hX=>rmake_anyB qg hap l hsz _ X (hrv.below (hB1.trans (hX.mono hB1.size))));have HW1:=qe hw1;have HB1:=qe hB1;have HBB:=qe hb1;clear hw1 hB1 hb1 hn1 hrv hf hok hsz hap;obtain⟨x0,x1⟩:=zD.out w1 (Below.refl _ _)
 go_enter Tryz.func16,Tryz.ntmps16
 go_upto_region 1 with fail;rw[← HW1.out,← HBB.out];go_wp2_with fail;refine HNW.out.mono ?_;intro e w2 hp;clear x0 x1;rcases hne:zn.yO qg l with _ | ⟨k0,c0⟩
 ·unfold kP at hp;rw[hne]at hp;obtain⟨hB2,z,L,-,hs,rfl,hzi⟩:=hp;have hva0:=zn.Y3 hne;have hva:zn.Valid qg L:=zn.Y3 (zn.newE_of hs.1.symm hne);have HB2:=qe hB2;have HZI:=qe hzi;have HVA:=qe hva;have HVA0:=qe hva0;have HS:=qe hs;have HNE:=qe hne;clear hB2 hzi hva hva0 hs hne;obtain⟨x0,x1⟩:=zD.out w2 HB2.out;go_wp2_with fail;refine(HMK.out w2 HB2.out).mono ?_;rintro e w3 ⟨hB3,hm⟩;rw[HNE.out]at hm;obtain⟨y,L',hs',rfl,hy⟩:=hm;obtain rfl:L'=L:=hs'.eq HS.out HVA0.out.named (zn.uniq_of (zn.Qm (zn.Zx HVA0.out.rules)));have HF:=qe (show BothPost qg l w (.returned (.tuple #[qW z,qW y,.bool true])) w3 from by
   have hs1:=HB1.out.size;have hs2:=HB2.out.size;refine⟨HB1.out.trans ((HB2.out.mono hs1).trans (hB3.mono (by omega))),.inr ⟨HNE.out,z,y,L',HS.out,HVA.out,rfl,fun W' h1 h2=>⟨⟨QD.new (HZI.out.keep fun b h3 h4=>(h2 b (by omega) (Nat.lt_of_lt_of_le h4 hB3.size)).trans (hB3.block b h4)),HVA.out.small,HVA.out.named,HS.out.2⟩,hy.keep h1 fun b h3 h4=>h2 b (by omega) h4⟩⟩⟩)
  clear hB3 hs' hy x0 x1;go_wp2_with fail
  go_ret3
  exact HF.out
 ·unfold kP at hp;rw[hne]at hp;obtain⟨hB2,rfl⟩:=hp;have hc0:=zn.newE_code7 hne;have HB2:=qe hB2;have HNE:=qe hne;clear hB2 hne;obtain⟨x0,x1⟩:=zD.out w2 HB2.out;go_wp2_with fail;refine(HMK.out w2 HB2.out).mono ?_;rintro e w3 ⟨hB3,hm⟩;rw[HNE.out]at hm;obtain rfl:=hm;have HF:=qe (show BothPost qg l w (.returned (.tuple #[.pointer none,.pointer none,.bool true])) w3 from by
   have hs1:=HB1.out.size;have hs2:=HB2.out.size;exact⟨HB1.out.trans ((HB2.out.mono hs1).trans (hB3.mono (by omega))),.inl ⟨by rw[HNE.out];simp,rfl⟩⟩)
  have d0:(c0 != 0)=true:=by rw[bne_iff_ne];exact hc0
  clear hB3 x0 x1;go_wp2_with fail
  go_ret3
  exact HF.out
end Go.Proofs.YtpcmilhjpmlbpaaGreatDoor
namespace Go.Proofs.YtpcmilhjpmlbpaaGreatDoor
open Go.RowKit Go.Shelf nm od
namespace tr
def Chain (H:List Zn):Prop:=∀i,i+1<H.length→zR (yA (q8 H (i+1))) (yA (q8 H i))=true
theorem Jo {H:List Zn}{Z:Zn}{i:Nat}(h:i<H.length):q8 (H ++ [Z]) i=q8 H i:=by
 unfold q8;rw[List.getD_eq_getElem?_getD,List.getD_eq_getElem?_getD,List.getElem?_append_left h]
theorem XK {H:List Zn}{Z:Zn}:q8 (H ++ [Z]) H.length=Z:=by
 unfold q8;rw[List.getD_eq_getElem?_getD,List.getElem?_append_right (Nat.le_refl _),Nat.sub_self];rfl
theorem add_zero {H:List Zn}{Z:Zn}(h:Ze H Z=0):qF Z.ap (qN H).ap=true∧zR (yA Z) (yA (qN H))=true:=by
 unfold Ze at h
 split at h
 ·cases h
 ·rename_i h1
  split at h
  ·cases h
  ·rename_i h2
   exact⟨by simpa using h1,by simpa using h2⟩
theorem XN (H:List Zn)(Z:Zn):(addL H Z).length=H.length+1-(H.length+1-8):=by unfold addL;rw[List.length_drop,List.length_append,List.length_singleton]
theorem add_get (H:List Zn)(Z:Zn)(i:Nat):q8 (addL H Z) i=q8 (H ++ [Z]) (H.length+1-8+i):=by unfold addL;rw[JX,List.length_append,List.length_singleton]
theorem add_last {H:List Zn}{Z:Zn}:qN (addL H Z)=Z:=by
 unfold qN;rw[add_get,XN];have:H.length+1-8+(H.length+1-(H.length+1-8)-1)=H.length:=by omega
 rw[this,XK]
theorem add_hist {H:List Zn}{Z:Zn}(hH:KV H)(hc:Chain H)(hZ:Ok Z)(h:Ze H Z=0):KV (addL H Z)∧Chain (addL H Z):=by
 obtain⟨h1,h2⟩:=add_zero h;have hfo:qx Z.ap=qx (qN H).ap:=(zn.zM hZ.ap hH.last.ap).1 h1;have hall:∀i,i<H.length+1→Ok (q8 (H ++ [Z]) i)∧qx (q8 (H ++ [Z]) i).ap=qx Z.ap:=fun i hi=>by
  by_cases e:i<H.length
  ·rw[Jo e];exact⟨hH.ok i e,(hH.fold i e).trans hfo.symm⟩
  ·obtain rfl:i=H.length:=by omega
   rw[XK];exact⟨hZ,rfl⟩
 have hl:=XN H Z;refine⟨⟨by omega,fun i hi=>?_,fun i hi=>?_⟩,fun i hi=>?_⟩
 ·rw[add_get];exact(hall _ (by omega)).1
 ·rw[add_get,add_last];exact(hall _ (by omega)).2
 ·rw[add_get,add_get];by_cases e:H.length+1-8+(i+1)<H.length
  ·rw[Jo e,Jo (by omega)];have:=hc (H.length+1-8+i) (by omega);rw[show H.length+1-8+i+1=H.length+1-8+(i+1) by omega]at this;exact this
  ·rw[show H.length+1-8+(i+1)=H.length by omega,XK,Jo (by omega)];have e2:H.length+1-8+i=H.length-1:=by omega
   rw[e2];exact h2
theorem one_hist {Z:Zn}(hZ:Ok Z):KV [Z]∧Chain [Z]:=
 ⟨⟨by simp,fun i hi=>by simp at hi;subst hi;exact hZ,fun i hi=>by simp at hi;subst hi;rfl⟩,fun i hi=>by simp at hi⟩
end tr
def KU (w:World)(v:Value)(N:List tr.Zn):Prop:=∃a cap,v= .slice a N.length cap∧N.length≤cap∧∀k (hk:k<N.length),∃b off rv,a=some ⟨b,off,none⟩∧b<w.heap.size∧w.cell? ⟨b,off+k*2,none⟩=some (.string N[k].ap)∧w.cell? ⟨b,off+k*2+1,none⟩=some rv∧qm w rv N[k].l∧
 yt rv∧N[k].ap.size≤1099511627776∧(∀r∈N[k].l,(Lit.int .i64 r.typ).wf=true)∧∀r∈N[k].l,r.owner.size≤1099511627776
theorem KU.below {w w':World}{v:Value}{N:List tr.Zn}(h:KU w v N)(hB:Below w.heap.size w w'):KU w' v N:=by
 obtain⟨a,cap,h1,h2,h3⟩:=h;refine⟨a,cap,h1,h2,fun k hk=>?_⟩;obtain⟨b,off,rv,e,hb,c0,c1,hr,hf⟩:=h3 k hk;exact⟨b,off,rv,e,Nat.lt_of_lt_of_le hb hB.size,(hB.cell (p:=⟨b,_,none⟩) hb).trans c0,(hB.cell (p:=⟨b,_,none⟩) hb).trans c1,hr.below hB,hf⟩
structure uG (base:Nat)(w:World)(H:List tr.Zn)(hv gv:Value)(h g rg roff KF:Nat)(zs ys:List Nat):Prop where
 ehv:hv= .pointer (some ⟨h,0,none⟩)
 hist:JC w base h g zs
 egv:gv= .slice (some ⟨rg,roff,none⟩) ys.length KF
 far:rg≠h∧rg≠g
 row:uW w gv ys
 lz:zs.length=H.length
 ly:ys.length=H.length
 l8:H.length≤8
 ok:tr.KV H
 chain:tr.Chain H
 safe:∀i (h1:i<zs.length) (h2:i<ys.length),∃lo hi,Safe lo hi w zs[i] ys[i] (tr.q8 H i)∧hi≤w.heap.size∧¬(lo≤h∧h<hi)∧¬(lo≤g∧g<hi)
section
variable {base:Nat}{w w':World}{H:List tr.Zn}{hv gv:Value}{h g rg roff KF:Nat}{zs ys:List Nat}
theorem uG.below (s:uG base w H hv gv h g rg roff KF zs ys)(hB:Below w.heap.size w w'):uG base w' H hv gv h g rg roff KF zs ys:=
 ⟨s.ehv,s.hist.below hB,s.egv,s.far,s.row.below hB,s.lz,s.ly,s.l8,s.ok,s.chain,fun i h1 h2=>by
  obtain⟨lo,hi,a,b,c,d⟩:=s.safe i h1 h2;exact⟨lo,hi,a.next hB.size fun x _ hx=>hB.block x (Nat.lt_of_lt_of_le hx b),Nat.le_trans b hB.size,c,d⟩⟩
theorem uG.zns (s:uG base w H hv gv h g rg roff KF zs ys):Kt w zs H∧Zg w ys H:=by
 refine⟨⟨s.lz,fun k h1 h2=>?_⟩,s.ly,fun k h1 h2=>?_⟩
 ·obtain⟨lo,hi,a,-⟩:=s.safe k h1 (by rw[s.ly];exact h2);rw[← tr.uL h2];exact⟨s.ok.ok k h2,_,a.now.1⟩
 ·obtain⟨lo,hi,a,-⟩:=s.safe k (by rw[s.lz];exact h2) h1;rw[← tr.uL h2];have h3:=(s.ok.ok k h2);exact⟨h3,by have:=qU h3.ap;omega,a.now.2⟩
theorem uG.glt (s:uG base w H hv gv h g rg roff KF zs ys):h<w.heap.size∧g<w.heap.size:=by
 obtain⟨h1,h2,cap,h3,h4⟩:=s.hist;exact⟨qA h3,(h4.lt g rfl).2⟩
end
theorem uG.more {base:Nat}{w w1 w2:World}{H:List tr.Zn}{hv gv gv':Value}{h g rg roff KF lo hi z y:Nat}{zs ys:List Nat}{Z:tr.Zn}(s:uG base w H hv gv h g rg roff KF zs ys)(hZ:tr.Ok Z)(hE:tr.Ze H Z=0)
 (hsf:Safe lo hi w z y Z) (hlo:h<lo∧g<lo) (hhi:hi≤w.heap.size) {g':Nat} (hs1:w.heap.size≤w1.heap.size) (hk:∀b,b<w.heap.size→b≠h→b≠g→w1.heap[b]? =w.heap[b]?) (hg':w.heap.size≤g') (hh:JC w1 base h g' ((zs ++ [z]).drop ((zs ++ [z]).length-8)))
 (hB:Below w1.heap.size w1 w2) (hr:uW w2 gv' ((ys ++ [y]).drop ((ys ++ [y]).length-8))) (hf:RFar w1.heap.size gv'):∃rg' roff' rcap',uG base w2 (tr.addL H Z) hv gv' h g' rg' roff' rcap' ((zs ++ [z]).drop ((zs ++ [z]).length-8)) ((ys ++ [y]).drop ((ys ++ [y]).length-8)):=by
 obtain⟨rg',roff',n',rcap',rfl,KN⟩:=hf;have hn:n'=((ys ++ [y]).drop ((ys ++ [y]).length-8)).length:=by
  obtain⟨_,_,_,e,_⟩:=hr;simp only[Value.slice.injEq]at e;exact e.2.1
 subst hn;obtain⟨a1,a2⟩:=tr.add_hist s.ok s.chain hZ hE;have hlen:=tr.XN H Z;have hlz:=s.lz;have hly:=s.ly;have hgl:=hh.2.2;obtain⟨cap,hb1,ho1⟩:=hgl;have hgl:=(ho1.lt g' rfl).2;have hhl:=qA hb1;have hzl:(zs ++ [z]).length=H.length+1:=by simp[hlz]
 have hyl:(ys ++ [y]).length=H.length+1:=by simp[hly]
 refine⟨rg',roff',rcap',s.ehv,hh.below hB,rfl,⟨by omega,by omega⟩,hr,by rw[List.length_drop,hlen,hzl],by rw[List.length_drop,hlen,hyl],by omega,a1,a2,fun i h1 h2=>?_⟩;rw[List.length_drop,hzl]at h1;rw[tr.add_get,List.getElem_drop,List.getElem_drop];have hix:(zs ++ [z]).length-8+i=H.length+1-8+i:=by rw[hzl]
 have hiy:(ys ++ [y]).length-8+i=H.length+1-8+i:=by rw[hyl]
 obtain⟨j,hj⟩:∃j,j=H.length+1-8+i:=⟨_,rfl⟩;have hjl:j<H.length+1:=by omega
 have key:∃lo' hi',Safe lo' hi' w ((zs ++ [z])[j]'(by omega)) ((ys ++ [y])[j]'(by omega)) (tr.q8 (H ++ [Z]) j)∧hi'≤w.heap.size∧¬(lo'≤h∧h<hi')∧¬(lo'≤g∧g<hi'):=by
  by_cases e:j<H.length
  ·obtain⟨lo',hi',b1,b2,b3,b4⟩:=s.safe j (by omega) (by omega);rw[tr.Jo e,List.getElem_append_left (by omega),List.getElem_append_left (by omega)];exact⟨lo',hi',b1,b2,b3,b4⟩
  ·have ej:j=H.length:=by omega
   subst ej;rw[tr.XK,List.getElem_append_right (by omega),List.getElem_append_right (by omega)];simp only[List.getElem_singleton];exact⟨lo,hi,hsf,hhi,by omega,by omega⟩
 obtain⟨lo',hi',b1,b2,b3,b4⟩:=key;have ez:(zs ++ [z])[(zs ++ [z]).length-8+i]'(by omega)=(zs ++ [z])[j]'(by omega):=by congr 1;omega
 have ey:(ys ++ [y])[(ys ++ [y]).length-8+i]'(by omega)=(ys ++ [y])[j]'(by omega):=by congr 1;omega
 rw[ez,ey,← hj];refine⟨lo',hi',b1.next (Nat.le_trans hs1 hB.size) fun b c1 c2=>?_,Nat.le_trans b2 (Nat.le_trans hs1 hB.size),b3,by omega⟩;rw[hB.block b (by omega),hk b (by omega) (fun e=>b3 ⟨e ▸ c1,e ▸ c2⟩) (fun e=>b4 ⟨e ▸ c1,e ▸ c2⟩)]
theorem uG.first {w w1 w2 w3:World}{lo hi z y h:Nat}{Z:tr.Zn}{base:Nat}(hZ:tr.Ok Z)(hsf:Safe lo hi w z y Z)(hhi:hi≤w.heap.size)(hb:base≤w.heap.size)(hB:Below w.heap.size w w1)(hh:xD w1 w.heap.size h [z])(hB2:Below w1.heap.size w1 w2)(h3:w3=w2.alloc (.cells #[qW y] 44)):
 ∃g,uG base w3 [Z] (.pointer (some ⟨h,0,none⟩)) (.slice (some ⟨w2.heap.size,0,none⟩) 1 1) h g w2.heap.size 0 1 [z] [y]:=by
 obtain⟨b1,g,cap,b2,b3,b4⟩:=hh;have hg:=(b4.lt g rfl);have hhl:=qA b3;have hB3:Below w2.heap.size w2 w3:=by rw[h3];exact(Below.refl _ _).alloc (Nat.le_refl _) _
 have hs3:w3.heap.size=w2.heap.size+1:=by rw[h3];simp
 have hs2:=hB2.size;have hs1:=hB.size;have hx:=hB2.trans (hB3.mono hB2.size);obtain⟨c1,c2⟩:=tr.one_hist hZ;refine⟨g,rfl,JC.below (⟨Nat.le_trans hb b1,b2,cap,b3,qG b4 hb⟩:JC w1 base h g [z]) hx,rfl,⟨by omega,by omega⟩,⟨w2.heap.size,0,1,rfl,Nat.le_refl _,by omega,fun k hk=>?_⟩,rfl,rfl,by simp,c1,c2,fun i h1 h2=>?_⟩
 ·simp only[List.length_singleton]at hk;obtain rfl:k=0:=by omega
  rw[h3];exact(zw w2 (qW y) 44).1
 ·simp only[List.length_singleton]at h1;obtain rfl:i=0:=by omega
  have hall:=hB.trans (hx.mono hB.size);exact⟨lo,hi,hsf.next hall.size fun b _ d=>hall.block b (by omega),by have:=hall.size;omega,by omega,by omega⟩
theorem hadd_nil (h:Nat)(w:World):Calls Tryz.prog 29 #[.pointer (some ⟨h,0,none⟩),.pointer none] w fun e w'=>e= .returned (.int .i64 28)∧w'=w:=by
 go_enter Tryz.func29,Tryz.ntmps29
 go_wp2_with fail;go_ret;exact⟨rfl,rfl⟩
theorem radded_nil (a:Option Addr)(n c:Nat)(w:World):Calls Tryz.prog 30 #[.slice a n c,.pointer none] w fun e w'=>e= .returned (.tuple #[.slice a n c,.int .i64 28])∧w'=w:=by
 go_enter Tryz.func30,Tryz.ntmps30
 go_wp2_with fail;go_ret2;exact⟨rfl,rfl⟩
def HasHist (base:Nat)(w:World)(H:List tr.Zn)(hv gv:Value):Prop:=tr.KV H∧tr.Chain H∧H.length≤8∧∃h zs ys,hv= .pointer (some ⟨h,0,none⟩)∧zs.length=H.length∧ys.length=H.length∧xD w base h zs∧Kt w zs H∧uW w gv ys∧Zg w ys H
def HistPost (N:List tr.Zn)(w:World)(e:Ending)(w':World):Prop:=∃H hv gv,e= .returned (.tuple #[hv,gv,.bool true])∧H.length≤N.length∧(∀x∈N,zn.yO x.ap x.l=none→H≠[])∧Below w.heap.size w w'∧
 ((H= []∧hv= .pointer none∧gv= .slice none 0 0)∨HasHist w.heap.size w' H hv gv)
def HNow (base:Nat)(w:World)(H:List tr.Zn)(hv gv:Value):Prop:=(H= []∧hv= .pointer none∧gv= .slice none 0 0)∨∃h g rg roff KF zs ys,uG base w H hv gv h g rg roff KF zs ys
theorem uG.has {base:Nat}{w:World}{H:List tr.Zn}{hv gv:Value}{h g rg roff KF:Nat}{zs ys:List Nat}(s:uG base w H hv gv h g rg roff KF zs ys):HasHist base w H hv gv:=
 ⟨s.ok,s.chain,s.l8,h,zs,ys,s.ehv,s.lz,s.ly,s.hist.at,s.zns.1,s.row,s.zns.2⟩
theorem V7 (N:List tr.Zn)(hN:N.length≤1048576)(v:Value)(w:World)(hv:KU w v N):
 Calls Tryz.prog 6 #[v] w fun e w'=>HistPost N w e w':=by
 have HV:=qe hv;obtain⟨va,vc,rfl,-,-⟩:=id hv;clear hv
 go_enter Tryz.func6,Tryz.ntmps6
 go_wp2_with fail
 go_loopw [18,5,6] (fun kv hv gv wr=>∃k:Nat,k≤N.length∧kv= .int .i64 (k:Int)∧∃(H:List tr.Zn) (hx gx:Value),hx=hv∧gx=gv∧H.length≤k∧(∀j (h1:j<N.length),j<k→zn.yO N[j].ap N[j].l=none→H≠[])∧Hid (Below w.heap.size w wr)∧Hid (HNow w.heap.size wr H hx gx)) (fun kv _ _ _=>N.length-(intOf kv).toNat)
 case atStart=>exact⟨0,Nat.zero_le _,rfl,[],_,_,rfl,rfl,Nat.le_refl _,fun j _ h=>absurd h (Nat.not_lt_zero _),qe (Below.refl _ _),qe (.inl ⟨rfl,rfl,rfl⟩)⟩
 case round=>
  obtain⟨k,hk,rfl,H,hv,gv,rfl,rfl,hHk,hHN,HBW,HNW⟩:=hrel;have HHK:=qe hHk;have HHN:=qe hHN;clear hHk hHN;obtain⟨wr3,hw3⟩:∃X:World,X=wr:=⟨_,rfl⟩;subst hw3;by_cases hlt:k<N.length
  ·have hki:(k:Int)<(N.length:Int):=by omega
   have ew:IntKind.i64.wrap ((k:Int)+1)=(k:Int)+1:=IntWalk.i64_in _ (by omega);obtain⟨_,_,hv,-,hr⟩:=HV.out.below HBW.out;simp only[Value.slice.injEq,true_and]at hv;obtain⟨rfl,rfl⟩:=hv;obtain⟨b,off,rv,rfl,hbl,c0,c1,hrv,hfa,hap,hok,hsz⟩:=hr k hlt;obtain⟨x,hx⟩:∃x,x=N[k]:=⟨_,rfl⟩;rw[← hx]at c0 hrv hap hok hsz;obtain⟨w1,hw1⟩:∃X,X=wr3.alloc (.cells #[.string x.ap,rv] 42):=⟨_,rfl⟩;obtain⟨b8,hb8⟩:∃b,b=wr3.heap.size:=⟨_,rfl⟩;have hB1:Below wr3.heap.size wr3 w1:=by rw[hw1];exact(Below.refl _ _).alloc (Nat.le_refl _) _
   have hn1:w1.heap[b8]? =some (.cells #[.string x.ap,rv] 42 (0,0)):=by rw[hw1,hb8];exact qz rfl
   have x0:w1.cell? ⟨b8,0,none⟩=some (.string x.ap):=by rw[qh hn1];rfl
   have x1:w1.cell? ⟨b8,1,none⟩=some rv:=by rw[qh hn1];rfl
   have HBO:=qe (both7_any x.ap hap x.l hok hsz rv hfa w1 (hrv.below hB1));obtain⟨rva,rvc,rfl,-⟩:=id hrv;have HX:=qe hx;have HW1:=qe hw1;have HB8:=qe hb8;have HB1:=qe hB1;have HLT:=qe hlt;clear hr hrv hfa hap hok hsz hx hw1 hb8 hB1 hn1 hbl;go_upto_region 6 with fail;rw[← HW1.out,← HB8.out];clear c0 c1;go_wp2_with fail;refine HBO.out.mono ?_;rintro e w2 ⟨hB2,hp⟩;have YL:=qe (HB1.out.trans (hB2.mono HB1.out.size));have xW:=qe hB2;clear hB2 x0 x1;rcases HNW.out with⟨rfl,rfl,rfl⟩|⟨h,g,rg,roff,KF,zs,ys,hst⟩
   ·rcases hp with⟨hne,rfl⟩|⟨hne,z,y,L,hso,hva,rfl,hsf⟩
    ·have HNE:=qe hne;clear hne;go_wp2_with fail;refine(newHistory_nil w2).mono ?_;rintro e wN ⟨rfl,hE⟩;obtain rfl:=hE.symm;clear hE;go_wp2_with fail
     go_roundw
     case rel=>exact⟨k+1,by omega,by go_num,[],_,_,rfl,rfl,by simp,(by
      intro j h1 h2 h3 h4;by_cases e:j<k
      ·exact HHN.out j h1 e h3 h4
      ·obtain rfl:j=k:=by omega
       rw[← HX.out]at h3;exact HNE.out h3),qe (HBW.out.trans (YL.out.mono HBW.out.size)),qe (.inl ⟨rfl,rfl,rfl⟩)⟩
     case measure=>simp[intOf];omega
    ·have HSF:=qe hsf;have HVA:=qe hva;clear hne hso hsf hva;go_wp2_with fail;refine(newHistory_any z w2).mono ?_;rintro e w3 ⟨h,rfl,hB3,hh⟩;obtain⟨w4,hw4⟩:∃X,X=w3.alloc (.cells #[qW y] 44):=⟨_,rfl⟩;have hF:∃g,uG w.heap.size w4 [⟨x.ap,L⟩] (.pointer (some ⟨h,0,none⟩)) (.slice (some ⟨w3.heap.size,0,none⟩) 1 1) h g w3.heap.size 0 1 [z] [y]:=
      uG.first HVA.out HSF.out (Nat.le_refl _) (Nat.le_trans HBW.out.size YL.out.size) hB3 hh (Below.refl _ _) hw4
     have hB4:Below w3.heap.size w3 w4:=by rw[hw4];exact(Below.refl _ _).alloc (Nat.le_refl _) _
     have HF:=qe hF;have HB24:=qe (hB3.trans (hB4.mono hB3.size));have HW4:=qe hw4;clear hF hB3 hB4 hh hw4;go_wp2_with fail
     go_roundw
     case rel=>exact⟨k+1,by omega,by go_num,[⟨x.ap,L⟩],_,_,rfl,rfl,by simp,(by intro j h1 h2 h3;simp),qe (by rw[← HW4.out];exact HBW.out.trans ((YL.out.trans (HB24.out.mono YL.out.size)).mono HBW.out.size)),qe (by
      rw[← HW4.out];obtain⟨g,hF⟩:=HF.out;exact .inr ⟨_,_,_,_,_,_,_,hF⟩)⟩
     case measure=>simp[intOf];omega
   ·have hgl:=hst.glt;have HS2:=qe (hst.below YL.out);have HW02:=qe (HBW.out.trans (YL.out.mono HBW.out.size));obtain rfl:=hst.ehv;obtain rfl:=hst.egv;clear hst;rcases hp with⟨hne,rfl⟩|⟨hne,z,y,L,hso,hva,rfl,hsf⟩
    ·clear hne;go_wp2_with fail;refine(hadd_nil h w2).mono ?_;rintro e wN ⟨rfl,hE⟩;obtain rfl:=hE.symm;clear hE;go_wp2_with fail;refine(radded_nil _ _ _ w2).mono ?_;rintro e wN ⟨rfl,hE⟩;obtain rfl:=hE.symm;clear hE;obtain⟨n1,hn1⟩:∃n,n=ys.length-1:=⟨_,rfl⟩;obtain⟨m,hm⟩:∃m,m=ys.length:=⟨_,rfl⟩;have hpos:0<ys.length:=by have:=HS2.out.ly;have:=HS2.out.ok.ne;omega
     have hcl:=uW.cellAt (by rw[← HS2.out.egv];exact HS2.out.row);obtain⟨yl,hyl⟩:∃y,y=ys[n1]'(by omega):=⟨_,rfl⟩;obtain⟨zl,hzl⟩:∃z,z=zs[n1]'(by have:=HS2.out.ly;have:=HS2.out.lz;omega):=⟨_,rfl⟩;have c1:=hcl.2.2.2 n1 (by omega);rw[← hyl]at c1;obtain⟨Z1,hZ1⟩:∃Z,Z=tr.q8 H n1:=⟨_,rfl⟩;have hok1:=HS2.out.ok.ok n1 (by have:=HS2.out.ly;omega);obtain⟨lo1,hi1,hsf1,hhi1,-,-⟩:=HS2.out.safe n1 (by have:=HS2.out.ly;have:=HS2.out.lz;omega) (by omega);rw[← hzl,← hyl,← hZ1]at hsf1;rw[← hZ1]at hok1;obtain⟨hzf,gy,gc,hyc,hyr⟩:=id hsf1.now;have HZF:=qe hzf;have HYC:=qe hyc;have HYR:=qe hyr;have HOK1:=qe hok1;have HZN:=qe (show ∀X,Below w2.heap.size w2 X→Calls Tryz.prog 31 #[.pointer (some ⟨h,0,none⟩)] X fun e w'=>e= .returned (qW zl)∧Below X.heap.size X w' from fun X hX=>by
      have h1:=QT w.heap.size h zs (by have:=HS2.out.ly;have:=HS2.out.lz;omega) (by have:=HS2.out.lz;have:=HS2.out.l8;omega) X (HS2.out.hist.below hX).at;have e:zs[zs.length-1]'(by have:=HS2.out.ly;have:=HS2.out.lz;omega)=zl:=by rw[hzl];congr 1;have:=HS2.out.ly;have:=HS2.out.lz;omega
      rw[e]at h1;exact h1)
     have HAX:=qe (show ∀X:World,Below w2.heap.size w2 X→Calls Tryz.prog 24 #[qW zl] X fun e w'=>e= .returned (.string Z1.ap)∧Below X.heap.size X w' from fun X hX=>by
      obtain⟨_,_,_,_,_,_,_,h2,_⟩:=(HZF.out.kept hX).v.parts;refine(xw zl Z1.ap _ _ _ X h2).mono ?_;rintro e w' ⟨rfl,rfl⟩;exact⟨rfl,Below.refl _ _⟩)
     have HRC:=qe (show ∀X:World,Below w2.heap.size w2 X→Calls Tryz.prog 23 #[qW zl] X fun e w'=>yn Z1.l X e w' from fun X hX=>
      vI _ zl Z1.ap Z1.l HOK1.out.small X (HZF.out.kept hX).v)
     have HSM:=qe (show ∀(X wA:World) (vA:Value),Below w2.heap.size w2 wA→wA.ownsRow X.heap.size 80 5 vA Z1.l.length (qp Z1.l)→Calls Tryz.prog 22 #[vA,.slice (some ⟨gy,0,none⟩) Z1.l.length gc] wA fun e w'=>e= .returned (.bool true)∧Below wA.heap.size wA w' from fun X wA vA hA hoA=>by
      have h:=Z8 Z1.l Z1.l (by have:=HOK1.out.small;omega) vA _ wA (qD hoA) (HYR.out.below hA);rw[decide_eq_true rfl]at h;exact h)
     have zD:=qe (show ∀X:World,Below w2.heap.size w2 X→Below w2.heap.size w2 X∧X.cell? ⟨yl,1,none⟩=some (.slice (some ⟨gy,0,none⟩) Z1.l.length gc)∧X.cell? ⟨yl,0,none⟩=some (.string Z1.ap) from fun X hX=>
      ⟨hX,(uS HYC.out HYR.out hX).2.1,(uS HYC.out HYR.out hX).1⟩)
     have yc0:=(zD.out w2 (Below.refl _ _)).2.2;have yc1:=(zD.out w2 (Below.refl _ _)).2.1;have e1:(ys.length:Int)-1=(n1:Int):=by omega
     have e2:IntKind.i64.wrap (n1:Int)=(n1:Int):=IntWalk.i64_in _ (by have:=HS2.out.ly;have:=HS2.out.l8;omega);have e3:(n1:Int)<(ys.length:Int):=by omega
     have e4:n1<ys.length:=by omega
     have HST:=qe HS2.out;clear hn1 hm hpos hcl hyl hzl hZ1 hok1 hsf1 hhi1 hzf hyc hyr;go_upto_region 21 with fail;clear e1 e2 e3 e4 c1
     go_cut [85] (fun s wx=>s= .bool false∧Below w2.heap.size w2 wx)
     case first=>
      go_region_held3 (fun X=>Below w2.heap.size w2 X∧X.cell? ⟨yl,1,none⟩=some (.slice (some ⟨gy,0,none⟩) Z1.l.length gc)∧X.cell? ⟨yl,0,none⟩=some (.string Z1.ap))
       (first | assumption | exact zD.out _ (Below.refl _ _).drew | (go_split_ands;exact zD.out _ (by assumption)))
       (first
        | (go_at_call 31;(with_reducible refine(HZN.out _ (by go_split_ands;assumption)).mono ?_);rintro e wX ⟨rfl,hbX⟩;go_split_ands;have J5:=Below.trans (B:=w2.heap.size) (a:=w2) (by assumption) (hbX.mono (Below.size (by assumption))))
        | (go_at_call 24;(with_reducible refine(HAX.out _ (by go_split_ands;assumption)).mono ?_);rintro e wX ⟨rfl,hbX⟩;go_split_ands;have J5:=Below.trans (B:=w2.heap.size) (a:=w2) (by assumption) (hbX.mono (Below.size (by assumption))))
        | (go_at_call 23;(with_reducible refine(HRC.out _ (by go_split_ands;assumption)).mono ?_);rintro e wA ⟨vA,rfl,hbA,hoA⟩;go_split_ands;have Zi:=Below.trans (B:=w2.heap.size) (a:=w2) (by assumption) (hbA.mono (Below.size (by assumption))))
        | (go_at_call 22;(with_reducible refine(HSM.out _ _ _ (by assumption) hoA).mono ?_);rintro e wB ⟨rfl,hbB⟩;have hbB2:=Below.trans (B:=w2.heap.size) (a:=w2) Zi (hbB.mono (Below.size Zi))))
      all_goals (go_wp2_with fail;go_meet;exact⟨rfl,hbB2⟩)
     obtain⟨rfl,hBc⟩:=hcut;have HBc:=qe hBc;clear hBc yc0 yc1;go_wp2_with fail
     go_roundw
     case rel=>exact⟨k+1,by omega,by go_num,H,_,_,rfl,rfl,(by have h9:=(Nat.le_refl H.length);have h10:=HHK.out;omega),(by intro j h1 h2 h3 h4;have h5:=HST.out.ok.ne;rw[h4]at h5;simp at h5),qe ((HW02.out).trans (HBc.out.mono (Below.size HW02.out))),qe (.inr ⟨_,_,_,_,_,_,_,HST.out.below HBc.out⟩)⟩
     case measure=>simp[intOf];omega
    ·have HSF:=qe hsf;have HVA:=qe hva;have HGL:=qe (show h<w1.heap.size∧g<w1.heap.size by have:=HB1.out.size;omega);clear hne hso hsf hva hgl;go_wp2_with fail;refine(hadd_any w.heap.size h g H zs (by have:=HS2.out.lz;have:=HS2.out.ok.ne;omega) (by have:=HS2.out.lz;have:=HS2.out.l8;omega) ⟨x.ap,L⟩ HVA.out _ z w2 HW02.out.size HS2.out.hist HS2.out.zns.1 HSF.out.now.1).mono ?_;rintro e w3 (⟨hE,rfl,hB3⟩|⟨hE,rfl,hB3,hkeep,g',hg',hh'⟩)
     ·have HE:=qe hE;obtain⟨ec,hec⟩:∃c,c=tr.Ze H ⟨x.ap,L⟩:=⟨_,rfl⟩;rw[← hec];have HEC:=qe hec;have XC:=qe hB3;have HS3:=qe (HS2.out.below hB3);have HRA:=qe (radded_any H ys (by have:=HS2.out.ly;have:=HS2.out.ok.ne;omega) (by have:=HS2.out.ly;have:=HS2.out.l8;omega) ⟨x.ap,L⟩ HVA.out (by have:=qU HVA.out.ap;show x.ap.size≤_;omega) y _ w3 HS3.out.row HS3.out.zns.2 (HSF.out.now.2.below hB3));clear hE hec hB3;go_wp2_with fail;refine HRA.out.mono ?_;rintro e w4 ⟨hB4,⟨-,rfl⟩|⟨h0,-⟩⟩
      ·rw[← HEC.out];have HS4:=qe (HS3.out.below hB4);have HW04:=qe (HW02.out.trans ((XC.out.trans (hB4.mono XC.out.size)).mono HW02.out.size));have d0:(ec != ec)=false:=by rw[bne_eq_false_iff_eq]
       clear hB4;obtain⟨n1,hn1⟩:∃n,n=ys.length-1:=⟨_,rfl⟩;obtain⟨m,hm⟩:∃m,m=ys.length:=⟨_,rfl⟩;have hpos:0<ys.length:=by have:=HS4.out.ly;have:=HS4.out.ok.ne;omega
       have hcl:=uW.cellAt (by rw[← HS4.out.egv];exact HS4.out.row);obtain⟨yl,hyl⟩:∃y,y=ys[n1]'(by omega):=⟨_,rfl⟩;obtain⟨zl,hzl⟩:∃z,z=zs[n1]'(by have:=HS4.out.ly;have:=HS4.out.lz;omega):=⟨_,rfl⟩;have c1:=hcl.2.2.2 n1 (by omega);rw[← hyl]at c1;obtain⟨Z1,hZ1⟩:∃Z,Z=tr.q8 H n1:=⟨_,rfl⟩;have hok1:=HS4.out.ok.ok n1 (by have:=HS4.out.ly;omega);obtain⟨lo1,hi1,hsf1,hhi1,-,-⟩:=HS4.out.safe n1 (by have:=HS4.out.ly;have:=HS4.out.lz;omega) (by omega);rw[← hzl,← hyl,← hZ1]at hsf1;rw[← hZ1]at hok1;obtain⟨hzf,gy,gc,hyc,hyr⟩:=id hsf1.now;have HZF:=qe hzf;have HYC:=qe hyc;have HYR:=qe hyr;have HOK1:=qe hok1;have HZN:=qe (show ∀X,Below w4.heap.size w4 X→Calls Tryz.prog 31 #[.pointer (some ⟨h,0,none⟩)] X fun e w'=>e= .returned (qW zl)∧Below X.heap.size X w' from fun X hX=>by
        have h1:=QT w.heap.size h zs (by have:=HS4.out.ly;have:=HS4.out.lz;omega) (by have:=HS4.out.lz;have:=HS4.out.l8;omega) X (HS4.out.hist.below hX).at;have e:zs[zs.length-1]'(by have:=HS4.out.ly;have:=HS4.out.lz;omega)=zl:=by rw[hzl];congr 1;have:=HS4.out.ly;have:=HS4.out.lz;omega
        rw[e]at h1;exact h1)
       have HAX:=qe (show ∀X:World,Below w4.heap.size w4 X→Calls Tryz.prog 24 #[qW zl] X fun e w'=>e= .returned (.string Z1.ap)∧Below X.heap.size X w' from fun X hX=>by
        obtain⟨_,_,_,_,_,_,_,h2,_⟩:=(HZF.out.kept hX).v.parts;refine(xw zl Z1.ap _ _ _ X h2).mono ?_;rintro e w' ⟨rfl,rfl⟩;exact⟨rfl,Below.refl _ _⟩)
       have HRC:=qe (show ∀X:World,Below w4.heap.size w4 X→Calls Tryz.prog 23 #[qW zl] X fun e w'=>yn Z1.l X e w' from fun X hX=>
        vI _ zl Z1.ap Z1.l HOK1.out.small X (HZF.out.kept hX).v)
       have HSM:=qe (show ∀(X wA:World) (vA:Value),Below w4.heap.size w4 wA→wA.ownsRow X.heap.size 80 5 vA Z1.l.length (qp Z1.l)→Calls Tryz.prog 22 #[vA,.slice (some ⟨gy,0,none⟩) Z1.l.length gc] wA fun e w'=>e= .returned (.bool true)∧Below wA.heap.size wA w' from fun X wA vA hA hoA=>by
        have h:=Z8 Z1.l Z1.l (by have:=HOK1.out.small;omega) vA _ wA (qD hoA) (HYR.out.below hA);rw[decide_eq_true rfl]at h;exact h)
       have zD:=qe (show ∀X:World,Below w4.heap.size w4 X→Below w4.heap.size w4 X∧X.cell? ⟨yl,1,none⟩=some (.slice (some ⟨gy,0,none⟩) Z1.l.length gc)∧X.cell? ⟨yl,0,none⟩=some (.string Z1.ap) from fun X hX=>
        ⟨hX,(uS HYC.out HYR.out hX).2.1,(uS HYC.out HYR.out hX).1⟩)
       have yc0:=(zD.out w4 (Below.refl _ _)).2.2;have yc1:=(zD.out w4 (Below.refl _ _)).2.1;have e1:(ys.length:Int)-1=(n1:Int):=by omega
       have e2:IntKind.i64.wrap (n1:Int)=(n1:Int):=IntWalk.i64_in _ (by have:=HS4.out.ly;have:=HS4.out.l8;omega);have e3:(n1:Int)<(ys.length:Int):=by omega
       have e4:n1<ys.length:=by omega
       have HST:=qe HS4.out;clear hn1 hm hpos hcl hyl hzl hZ1 hok1 hsf1 hhi1 hzf hyc hyr;go_upto_region 21 with fail;clear e1 e2 e3 e4 c1
       go_cut [85] (fun s wx=>s= .bool false∧Below w4.heap.size w4 wx)
       case first=>
        go_region_held3 (fun X=>Below w4.heap.size w4 X∧X.cell? ⟨yl,1,none⟩=some (.slice (some ⟨gy,0,none⟩) Z1.l.length gc)∧X.cell? ⟨yl,0,none⟩=some (.string Z1.ap))
         (first | assumption | exact zD.out _ (Below.refl _ _).drew | (go_split_ands;exact zD.out _ (by assumption)))
         (first
          | (go_at_call 31;(with_reducible refine(HZN.out _ (by go_split_ands;assumption)).mono ?_);rintro e wX ⟨rfl,hbX⟩;go_split_ands;have J5:=Below.trans (B:=w4.heap.size) (a:=w4) (by assumption) (hbX.mono (Below.size (by assumption))))
          | (go_at_call 24;(with_reducible refine(HAX.out _ (by go_split_ands;assumption)).mono ?_);rintro e wX ⟨rfl,hbX⟩;go_split_ands;have J5:=Below.trans (B:=w4.heap.size) (a:=w4) (by assumption) (hbX.mono (Below.size (by assumption))))
          | (go_at_call 23;(with_reducible refine(HRC.out _ (by go_split_ands;assumption)).mono ?_);rintro e wA ⟨vA,rfl,hbA,hoA⟩;go_split_ands;have Zi:=Below.trans (B:=w4.heap.size) (a:=w4) (by assumption) (hbA.mono (Below.size (by assumption))))
          | (go_at_call 22;(with_reducible refine(HSM.out _ _ _ (by assumption) hoA).mono ?_);rintro e wB ⟨rfl,hbB⟩;have hbB2:=Below.trans (B:=w4.heap.size) (a:=w4) Zi (hbB.mono (Below.size Zi))))
        all_goals (go_wp2_with fail;go_meet;exact⟨rfl,hbB2⟩)
       obtain⟨rfl,hBc⟩:=hcut;have HBc:=qe hBc;clear hBc yc0 yc1;go_wp2_with fail
       go_roundw
       case rel=>exact⟨k+1,by omega,by go_num,H,_,_,rfl,rfl,(by have h9:=(Nat.le_refl H.length);have h10:=HHK.out;omega),(by intro j h1 h2 h3 h4;have h5:=HST.out.ok.ne;rw[h4]at h5;simp at h5),qe ((HW04.out).trans (HBc.out.mono (Below.size HW04.out))),qe (.inr ⟨_,_,_,_,_,_,_,HST.out.below HBc.out⟩)⟩
       case measure=>simp[intOf];omega
      ·exact absurd h0 HE.out
     ·have HE:=qe hE;have hs23:w2.heap.size≤w3.heap.size:=hB3.size;have hlo:h<w2.heap.size∧g<w2.heap.size:=HS2.out.glt;have hrow3:uW w3 (.slice (some ⟨rg,roff,none⟩) ys.length KF) ys:=by
       obtain⟨-,c2,c3,c4⟩:=uW.cellAt HS2.out.row;exact⟨rg,roff,KF,rfl,c2,by omega,fun j hj=>(World.cell?_of_block (w:=w2) (a:=⟨rg,roff+j,none⟩) (hkeep rg c3 HS2.out.far.1 HS2.out.far.2)).trans (c4 j hj)⟩
      have hzn3:Zg w3 ys H:=⟨HS2.out.ly,fun j h1 h2=>by
       obtain⟨lo,hi,a,b,c,d⟩:=HS2.out.safe j (by rw[HS2.out.lz];exact h2) h1;have ok1:=HS2.out.ok.ok j h2;rw[← tr.uL h2];exact⟨ok1,by have:=qU ok1.ap;omega,(a.next hs23 fun b' e1 e2=>hkeep b' (by omega) (fun e=>c ⟨e ▸ e1,e ▸ e2⟩) (fun e=>d ⟨e ▸ e1,e ▸ e2⟩)).now.2⟩⟩
      have hsf3:=HSF.out.next hs23 fun b' e1 e2=>hkeep b' e2 (fun e=>by have:=HGL.out.1;omega) (fun e=>by have:=HGL.out.2;omega);have HRA:=qe (radded_any H ys (by have:=HS2.out.ly;have:=HS2.out.ok.ne;omega) (by have:=HS2.out.ly;have:=HS2.out.l8;omega) ⟨x.ap,L⟩ HVA.out (by have:=qU HVA.out.ap;show x.ap.size≤_;omega) y _ w3 hrow3 hzn3 hsf3.now.2);have XC:=qe hB3;have HKP:=qe hkeep;have HGP:=qe hg';have HHP:=qe hh';clear hE hB3 hkeep hg' hh' hs23 hlo hrow3 hzn3 hsf3;go_wp2_with fail;refine HRA.out.mono ?_;rintro e w4 ⟨hB4,⟨h0,-⟩|⟨-,v',rfl,hr4,hf4⟩⟩
      ·exact absurd HE.out h0
      ·obtain⟨rg',roff',rcap',hS4⟩:=HS2.out.more (Z:=⟨x.ap,L⟩) (lo:=w1.heap.size) (hi:=w2.heap.size) HVA.out HE.out HSF.out HGL.out (Nat.le_refl _) XC.out.size HKP.out HGP.out HHP.out hB4 hr4 hf4;have HS4:=qe hS4;have HW04:=qe ((HW02.out.trans XC.out).trans (hB4.mono (Nat.le_trans HW02.out.size XC.out.size)));obtain rfl:=hS4.egv;obtain⟨ys',hys⟩:∃Y,Y=(ys ++ [y]).drop ((ys ++ [y]).length-8):=⟨_,rfl⟩;obtain⟨zs',hzs⟩:∃Y,Y=(zs ++ [z]).drop ((zs ++ [z]).length-8):=⟨_,rfl⟩;rw[← hys,← hzs]at HS4;rw[← hys];obtain⟨H',hH'⟩:∃Y,Y=tr.addL H ⟨x.ap,L⟩:=⟨_,rfl⟩;have HLN:=qe (show H'.length≤H.length+1 by rw[hH',tr.XN];omega);rw[← hH']at HS4;clear hB4 hr4 hf4 hS4 hys hzs hH';obtain⟨n1,hn1⟩:∃n,n=ys'.length-1:=⟨_,rfl⟩;obtain⟨m,hm⟩:∃m,m=ys'.length:=⟨_,rfl⟩;have hpos:0<ys'.length:=by have:=HS4.out.ly;have:=HS4.out.ok.ne;omega
       have hcl:=uW.cellAt (by rw[← HS4.out.egv];exact HS4.out.row);obtain⟨yl,hyl⟩:∃y,y=ys'[n1]'(by omega):=⟨_,rfl⟩;obtain⟨zl,hzl⟩:∃z,z=zs'[n1]'(by have:=HS4.out.ly;have:=HS4.out.lz;omega):=⟨_,rfl⟩;have c1:=hcl.2.2.2 n1 (by omega);rw[← hyl]at c1;obtain⟨Z1,hZ1⟩:∃Z,Z=tr.q8 H' n1:=⟨_,rfl⟩;have hok1:=HS4.out.ok.ok n1 (by have:=HS4.out.ly;omega);obtain⟨lo1,hi1,hsf1,hhi1,-,-⟩:=HS4.out.safe n1 (by have:=HS4.out.ly;have:=HS4.out.lz;omega) (by omega);rw[← hzl,← hyl,← hZ1]at hsf1;rw[← hZ1]at hok1;obtain⟨hzf,gy,gc,hyc,hyr⟩:=id hsf1.now;have HZF:=qe hzf;have HYC:=qe hyc;have HYR:=qe hyr;have HOK1:=qe hok1;have HZN:=qe (show ∀X,Below w4.heap.size w4 X→Calls Tryz.prog 31 #[.pointer (some ⟨h,0,none⟩)] X fun e w'=>e= .returned (qW zl)∧Below X.heap.size X w' from fun X hX=>by
        have h1:=QT w.heap.size h zs' (by have:=HS4.out.ly;have:=HS4.out.lz;omega) (by have:=HS4.out.lz;have:=HS4.out.l8;omega) X (HS4.out.hist.below hX).at;have e:zs'[zs'.length-1]'(by have:=HS4.out.ly;have:=HS4.out.lz;omega)=zl:=by rw[hzl];congr 1;have:=HS4.out.ly;have:=HS4.out.lz;omega
        rw[e]at h1;exact h1)
       have HAX:=qe (show ∀X:World,Below w4.heap.size w4 X→Calls Tryz.prog 24 #[qW zl] X fun e w'=>e= .returned (.string Z1.ap)∧Below X.heap.size X w' from fun X hX=>by
        obtain⟨_,_,_,_,_,_,_,h2,_⟩:=(HZF.out.kept hX).v.parts;refine(xw zl Z1.ap _ _ _ X h2).mono ?_;rintro e w' ⟨rfl,rfl⟩;exact⟨rfl,Below.refl _ _⟩)
       have HRC:=qe (show ∀X:World,Below w4.heap.size w4 X→Calls Tryz.prog 23 #[qW zl] X fun e w'=>yn Z1.l X e w' from fun X hX=>
        vI _ zl Z1.ap Z1.l HOK1.out.small X (HZF.out.kept hX).v)
       have HSM:=qe (show ∀(X wA:World) (vA:Value),Below w4.heap.size w4 wA→wA.ownsRow X.heap.size 80 5 vA Z1.l.length (qp Z1.l)→Calls Tryz.prog 22 #[vA,.slice (some ⟨gy,0,none⟩) Z1.l.length gc] wA fun e w'=>e= .returned (.bool true)∧Below wA.heap.size wA w' from fun X wA vA hA hoA=>by
        have h:=Z8 Z1.l Z1.l (by have:=HOK1.out.small;omega) vA _ wA (qD hoA) (HYR.out.below hA);rw[decide_eq_true rfl]at h;exact h)
       have zD:=qe (show ∀X:World,Below w4.heap.size w4 X→Below w4.heap.size w4 X∧X.cell? ⟨yl,1,none⟩=some (.slice (some ⟨gy,0,none⟩) Z1.l.length gc)∧X.cell? ⟨yl,0,none⟩=some (.string Z1.ap) from fun X hX=>
        ⟨hX,(uS HYC.out HYR.out hX).2.1,(uS HYC.out HYR.out hX).1⟩)
       have yc0:=(zD.out w4 (Below.refl _ _)).2.2;have yc1:=(zD.out w4 (Below.refl _ _)).2.1;have e1:(ys'.length:Int)-1=(n1:Int):=by omega
       have e2:IntKind.i64.wrap (n1:Int)=(n1:Int):=IntWalk.i64_in _ (by have:=HS4.out.ly;have:=HS4.out.l8;omega);have e3:(n1:Int)<(ys'.length:Int):=by omega
       have e4:n1<ys'.length:=by omega
       have HST:=qe HS4.out;clear hn1 hm hpos hcl hyl hzl hZ1 hok1 hsf1 hhi1 hzf hyc hyr;go_upto_region 21 with fail;clear e1 e2 e3 e4 c1
       go_cut [85] (fun s wx=>s= .bool false∧Below w4.heap.size w4 wx)
       case first=>
        go_region_held3 (fun X=>Below w4.heap.size w4 X∧X.cell? ⟨yl,1,none⟩=some (.slice (some ⟨gy,0,none⟩) Z1.l.length gc)∧X.cell? ⟨yl,0,none⟩=some (.string Z1.ap))
         (first | assumption | exact zD.out _ (Below.refl _ _).drew | (go_split_ands;exact zD.out _ (by assumption)))
         (first
          | (go_at_call 31;(with_reducible refine(HZN.out _ (by go_split_ands;assumption)).mono ?_);rintro e wX ⟨rfl,hbX⟩;go_split_ands;have J5:=Below.trans (B:=w4.heap.size) (a:=w4) (by assumption) (hbX.mono (Below.size (by assumption))))
          | (go_at_call 24;(with_reducible refine(HAX.out _ (by go_split_ands;assumption)).mono ?_);rintro e wX ⟨rfl,hbX⟩;go_split_ands;have J5:=Below.trans (B:=w4.heap.size) (a:=w4) (by assumption) (hbX.mono (Below.size (by assumption))))
          | (go_at_call 23;(with_reducible refine(HRC.out _ (by go_split_ands;assumption)).mono ?_);rintro e wA ⟨vA,rfl,hbA,hoA⟩;go_split_ands;have Zi:=Below.trans (B:=w4.heap.size) (a:=w4) (by assumption) (hbA.mono (Below.size (by assumption))))
          | (go_at_call 22;(with_reducible refine(HSM.out _ _ _ (by assumption) hoA).mono ?_);rintro e wB ⟨rfl,hbB⟩;have hbB2:=Below.trans (B:=w4.heap.size) (a:=w4) Zi (hbB.mono (Below.size Zi))))
        all_goals (go_wp2_with fail;go_meet;exact⟨rfl,hbB2⟩)
       obtain⟨rfl,hBc⟩:=hcut;have HBc:=qe hBc;clear hBc yc0 yc1;go_wp2_with fail
       go_roundw
       case rel=>exact⟨k+1,by omega,by go_num,H',_,_,rfl,rfl,(by have h9:=HLN.out;have h10:=HHK.out;omega),(by intro j h1 h2 h3 h4;have h5:=HST.out.ok.ne;rw[h4]at h5;simp at h5),qe ((HW04.out).trans (HBc.out.mono (Below.size HW04.out))),qe (.inr ⟨_,_,_,_,_,_,_,HST.out.below HBc.out⟩)⟩
       case measure=>simp[intOf];omega
  ·obtain rfl:k=N.length:=by omega
   clear hlt;have HF:=qe (show HistPost N w (.returned (.tuple #[hv,gv,.bool true])) wr3 from⟨H,hv,gv,rfl,HHK.out,(by
    intro x hx h1;obtain⟨j,hj,rfl⟩:=List.getElem_of_mem hx;exact HHN.out j hj hj h1),HBW.out,HNW.out.imp id fun⟨_,_,_,_,_,_,_,h⟩=>h.has⟩)
   go_wp2_with fail
   go_ret3
   exact HF.out
end Go.Proofs.YtpcmilhjpmlbpaaGreatDoor
