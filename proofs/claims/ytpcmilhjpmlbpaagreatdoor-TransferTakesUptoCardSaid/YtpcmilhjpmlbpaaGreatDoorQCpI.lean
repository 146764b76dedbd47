import Derived.Test.YtpcmilhjpmlbpaaGreatDoorQTkA
import Derived.Deep.RegionHeld3
import Derived.Deep.CutBlock
set_option maxRecDepth 100000
set_option maxHeartbeats 16000000
namespace Go.Proofs.YtpcmilhjpmlbpaaGreatDoor
open Go.RowKit Go.Shelf nm od
namespace tr
def Chain (H:List Zn):Prop:=∀i,i+1<H.length->zU (yD (zh H (i+1))) (yD (zh H i))=true
theorem JD {H:List Zn}{Z:Zn}{i:Nat}(h:i<H.length):zh (H ++ [Z]) i=zh H i:=by
 unfold zh;rw[List.getD_eq_getElem?_getD,List.getD_eq_getElem?_getD,List.getElem?_append_left h]
theorem XT {H:List Zn}{Z:Zn}:zh (H ++ [Z]) H.length=Z:=by
 unfold zh;rw[List.getD_eq_getElem?_getD,List.getElem?_append_right (gI _),Nat.sub_self];rfl
theorem add_zero {H:List Zn}{Z:Zn}(h:Zi H Z=0):qG Z.ap (qR H).ap=true/\zU (yD Z) (yD (qR H))=true:=by
 unfold Zi at h
 split at h
 ·cases h
 ·rename_i h1
  split at h
  ·cases h
  ·rename_i h2
   exact⟨by simpa using h1,by simpa using h2⟩
theorem XW (H:List Zn)(Z:Zn):(addL H Z).length=H.length+1-(H.length+1-8):=by unfold addL;rw[He,gK,gT]
theorem add_get (H:List Zn)(Z:Zn)(i:Nat):zh (addL H Z) i=zh (H ++ [Z]) (H.length+1-8+i):=by unfold addL;rw[getZ_drop,gK,gT]
theorem add_last {H:List Zn}{Z:Zn}:qR (addL H Z)=Z:=by
 unfold qR;rw[add_get,XW];have:H.length+1-8+(H.length+1-(H.length+1-8)-1)=H.length:=by omega
 rw[this,XT]
theorem add_hist {H:List Zn}{Z:Zn}(hH:Uj H)(hc:Chain H)(hZ:Ok Z)(h:Zi H Z=0):Uj (addL H Z)/\Chain (addL H Z):=by
 obtain⟨h1,h2⟩:=add_zero h;have hfo:qy Z.ap=qy (qR H).ap:=(zn.zP hZ.ap hH.last.ap).1 h1
 have hall:∀i,i<H.length+1->Ok (zh (H ++ [Z]) i)/\qy (zh (H ++ [Z]) i).ap=qy Z.ap:=λi hi=>by
  by_cases e:i<H.length
  ·rw[JD e];exact⟨hH.ok i e,(hH.fold i e).trans hfo.symm⟩
  ·obtain rfl:i=H.length:=by omega
   rw[XT];exact⟨hZ,rfl⟩
 have hl:=XW H Z;refine⟨⟨by omega,λi hi=>?_,λi hi=>?_⟩,λi hi=>?_⟩
 ·rw[add_get];exact(hall _ (by omega)).1
 ·rw[add_get,add_last];exact(hall _ (by omega)).2
 ·rw[add_get,add_get];by_cases e:H.length+1-8+(i+1)<H.length
  ·rw[JD e,JD (by omega)];have:=hc (H.length+1-8+i) (by omega);rw[show H.length+1-8+i+1=H.length+1-8+(i+1) by omega]at this;exact this
  ·rw[show H.length+1-8+(i+1)=H.length by omega,XT,JD (by omega)];have e2:H.length+1-8+i=H.length-1:=by omega
   rw[e2];exact h2
theorem one_hist {Z:Zn}(hZ:Ok Z):Uj [Z]/\Chain [Z]:=
 ⟨⟨by simp,λi hi=>by simp at hi;subst hi;exact hZ,λi hi=>by simp at hi;subst hi;rfl⟩,λi hi=>by simp at hi⟩
end tr
def LotsAt (w:World)(v:Value)(N:List tr.Zn):Prop:=∃a cap,v= .slice a N.length cap/\N.length<=cap/\∀k (hk:k<N.length),∃b off rv,a=some ⟨b,off,none⟩/\b<w.heap.size/\w.cell? ⟨b,off+k*2,none⟩=some (.string N[k].ap)/\w.cell? ⟨b,off+k*2+1,none⟩=some rv/\ql w rv N[k].l/\
 yn rv/\N[k].ap.size<=1099511627776/\(∀r∈N[k].l,(Lit.int .i64 r.typ).wf=true)/\∀r∈N[k].l,r.owner.size<=1099511627776
theorem LotsAt.below {w w':World}{v:Value}{N:List tr.Zn}(h:LotsAt w v N)(hB:Below w.heap.size w w'):LotsAt w' v N:=by
 obtain⟨a,cap,h1,h2,h3⟩:=h;refine⟨a,cap,h1,h2,λk hk=>?_⟩;obtain⟨b,off,rv,e,hb,c0,c1,hr,hf⟩:=h3 k hk;exact⟨b,off,rv,e,gN hb hB.size,(hB.cell (p:=⟨b,_,none⟩) hb).trans c0,(hB.cell (p:=⟨b,_,none⟩) hb).trans c1,hr.below hB,hf⟩
structure uI (base:Nat)(w:World)(H:List tr.Zn)(hv gv:Value)(h g rg roff KY:Nat)(zs ys:List Nat):Prop where
 ehv:hv= .pointer (some ⟨h,0,none⟩)
 hist:JQ w base h g zs
 egv:gv= .slice (some ⟨rg,roff,none⟩) ys.length KY
 far:rg≠h/\rg≠g
 row:xM w gv ys
 lz:zs.length=H.length
 ly:ys.length=H.length
 l8:H.length<=8
 ok:tr.Uj H
 chain:tr.Chain H
 safe:∀i (h1:i<zs.length) (h2:i<ys.length),∃lo hi,Safe lo hi w zs[i] ys[i] (tr.zh H i)/\hi<=w.heap.size/\¬(lo<=h/\h<hi)/\¬(lo<=g/\g<hi)
section
variable {base:Nat}{w w':World}{H:List tr.Zn}{hv gv:Value}{h g rg roff KY:Nat}{zs ys:List Nat}
theorem uI.below (s:uI base w H hv gv h g rg roff KY zs ys)(hB:Below w.heap.size w w'):uI base w' H hv gv h g rg roff KY zs ys:=
 ⟨s.ehv,s.hist.below hB,s.egv,s.far,s.row.below hB,s.lz,s.ly,s.l8,s.ok,s.chain,λi h1 h2=>by
  obtain⟨lo,hi,a,b,c,d⟩:=s.safe i h1 h2;exact⟨lo,hi,a.next hB.size λx _ hx=>hB.block x (gN hx b),gQ b hB.size,c,d⟩⟩
theorem uI.zns (s:uI base w H hv gv h g rg roff KY zs ys):KI w zs H/\JO w ys H:=by
 refine⟨⟨s.lz,λk h1 h2=>?_⟩,s.ly,λk h1 h2=>?_⟩
 ·obtain⟨lo,hi,a,-⟩:=s.safe k h1 (by rw[s.ly];exact h2);rw[<- tr.Qd h2];exact⟨s.ok.ok k h2,_,a.now.1⟩
 ·obtain⟨lo,hi,a,-⟩:=s.safe k (by rw[s.lz];exact h2) h1;rw[<- tr.Qd h2];have h3:=(s.ok.ok k h2);exact⟨h3,by have:=qV h3.ap;omega,a.now.2⟩
theorem uI.glt (s:uI base w H hv gv h g rg roff KY zs ys):h<w.heap.size/\g<w.heap.size:=by
 obtain⟨h1,h2,cap,h3,h4⟩:=s.hist;exact⟨qA h3,(h4.lt g rfl).2⟩
end
theorem uI.more {base:Nat}{w w1 w2:World}{H:List tr.Zn}{hv gv gv':Value}{h g rg roff KY lo hi z y:Nat}{zs ys:List Nat}{Z:tr.Zn}(s:uI base w H hv gv h g rg roff KY zs ys)(hZ:tr.Ok Z)(hE:tr.Zi H Z=0)
 (hsf:Safe lo hi w z y Z) (hlo:h<lo/\g<lo) (hhi:hi<=w.heap.size) {g':Nat} (hs1:w.heap.size<=w1.heap.size) (hk:∀b,b<w.heap.size->b≠h->b≠g->w1.heap[b]? =w.heap[b]?) (hg':w.heap.size<=g') (hh:JQ w1 base h g' ((zs ++ [z]).drop ((zs ++ [z]).length-8)))
 (hB:Below w1.heap.size w1 w2) (hr:xM w2 gv' ((ys ++ [y]).drop ((ys ++ [y]).length-8))) (hf:RFar w1.heap.size gv'):∃rg' roff' rcap',uI base w2 (tr.addL H Z) hv gv' h g' rg' roff' rcap' ((zs ++ [z]).drop ((zs ++ [z]).length-8)) ((ys ++ [y]).drop ((ys ++ [y]).length-8)):=by
 obtain⟨rg',roff',n',rcap',rfl,Uc⟩:=hf;have hn:n'=((ys ++ [y]).drop ((ys ++ [y]).length-8)).length:=by
  obtain⟨_,_,_,e,_⟩:=hr;simp only[gL]at e;exact e.2.1
 subst hn;obtain⟨a1,a2⟩:=tr.add_hist s.ok s.chain hZ hE;have hlen:=tr.XW H Z;have hlz:=s.lz;have hly:=s.ly;have hgl:=hh.2.2;obtain⟨cap,hb1,ho1⟩:=hgl;have hgl:=(ho1.lt g' rfl).2;have hhl:=qA hb1;have hzl:(zs ++ [z]).length=H.length+1:=by simp[hlz]
 have hyl:(ys ++ [y]).length=H.length+1:=by simp[hly]
 refine⟨rg',roff',rcap',s.ehv,hh.below hB,rfl,⟨by omega,by omega⟩,hr,by rw[He,hlen,hzl],by rw[He,hlen,hyl],by omega,a1,a2,λi h1 h2=>?_⟩;rw[He,hzl]at h1;rw[tr.add_get,List.getElem_drop,List.getElem_drop];have hix:(zs ++ [z]).length-8+i=H.length+1-8+i:=by rw[hzl]
 have hiy:(ys ++ [y]).length-8+i=H.length+1-8+i:=by rw[hyl]
 obtain⟨j,hj⟩:=yM (H.length+1-8+i);have hjl:j<H.length+1:=by omega
 have key:∃lo' hi',Safe lo' hi' w ((zs ++ [z])[j]'(by omega)) ((ys ++ [y])[j]'(by omega)) (tr.zh (H ++ [Z]) j)/\hi'<=w.heap.size/\¬(lo'<=h/\h<hi')/\¬(lo'<=g/\g<hi'):=by
  by_cases e:j<H.length
  ·obtain⟨lo',hi',b1,b2,b3,b4⟩:=s.safe j (by omega) (by omega);rw[tr.JD e,List.getElem_append_left (by omega),List.getElem_append_left (by omega)];exact⟨lo',hi',b1,b2,b3,b4⟩
  ·have ej:j=H.length:=by omega
   subst ej;rw[tr.XT,List.getElem_append_right (by omega),List.getElem_append_right (by omega)];simp only[List.getElem_singleton];exact⟨lo,hi,hsf,hhi,by omega,by omega⟩
 obtain⟨lo',hi',b1,b2,b3,b4⟩:=key;have ez:(zs ++ [z])[(zs ++ [z]).length-8+i]'(by omega)=(zs ++ [z])[j]'(by omega):=by congr 1;omega
 have ey:(ys ++ [y])[(ys ++ [y]).length-8+i]'(by omega)=(ys ++ [y])[j]'(by omega):=by congr 1;omega
 rw[ez,ey,<- hj];refine⟨lo',hi',b1.next (gQ hs1 hB.size) λb c1 c2=>?_,gQ b2 (gQ hs1 hB.size),b3,by omega⟩;rw[hB.block b (by omega),hk b (by omega) (λe=>b3 ⟨e ▸ c1,e ▸ c2⟩) (λe=>b4 ⟨e ▸ c1,e ▸ c2⟩)]
theorem uI.first {w w1 w2 w3:World}{lo hi z y h:Nat}{Z:tr.Zn}{base:Nat}(hZ:tr.Ok Z)(hsf:Safe lo hi w z y Z)(hhi:hi<=w.heap.size)(hb:base<=w.heap.size)(hB:Below w.heap.size w w1)(hh:xE w1 w.heap.size h [z])(hB2:Below w1.heap.size w1 w2)(h3:w3=w2.alloc (.cells #[qX y] 44)):
 ∃g,uI base w3 [Z] (.pointer (some ⟨h,0,none⟩)) (.slice (some ⟨w2.heap.size,0,none⟩) 1 1) h g w2.heap.size 0 1 [z] [y]:=by
 obtain⟨b1,g,cap,b2,b3,b4⟩:=hh;have hg:=(b4.lt g rfl);have hhl:=qA b3;have hB3:Below w2.heap.size w2 w3:=by rw[h3];exact(gJ _ _).alloc (gI _) _
 have hs3:w3.heap.size=w2.heap.size+1:=by rw[h3];simp
 have hs2:=hB2.size;have hs1:=hB.size;have hx:=gm hB2 hB3;obtain⟨c1,c2⟩:=tr.one_hist hZ;refine⟨g,rfl,JQ.below (⟨gQ hb b1,b2,cap,b3,qK b4 hb⟩:JQ w1 base h g [z]) hx,rfl,⟨by omega,by omega⟩,⟨w2.heap.size,0,1,rfl,gI _,by omega,λk hk=>?_⟩,rfl,rfl,by simp,c1,c2,λi h1 h2=>?_⟩
 ·simp only[gT]at hk;obtain rfl:k=0:=by omega
  rw[h3];exact(zC w2 (qX y) 44).1
 ·simp only[gT]at h1;obtain rfl:i=0:=by omega
  have hall:=gm hB hx;exact⟨lo,hi,hsf.next hall.size λb _ d=>hall.block b (by omega),by have:=hall.size;omega,by omega,by omega⟩
theorem hadd_nil (h:Nat)(w:World):Calls Tryz.prog 29 #[.pointer (some ⟨h,0,none⟩),.pointer none] w λe w'=>e= .returned (.int .i64 28)/\w'=w:=by
 go_enter Tryz.func29,Tryz.ntmps29
 go_wp2_with fail;go_ret;exact⟨rfl,rfl⟩
theorem radded_nil (a:Option Addr)(n c:Nat)(w:World):Calls Tryz.prog 30 #[.slice a n c,.pointer none] w λe w'=>e= .returned (.tuple #[.slice a n c,.int .i64 28])/\w'=w:=by
 go_enter Tryz.func30,Tryz.ntmps30
 go_wp2_with fail;go_ret2;exact⟨rfl,rfl⟩
def HasHist (base:Nat)(w:World)(H:List tr.Zn)(hv gv:Value):Prop:=tr.Uj H/\tr.Chain H/\H.length<=8/\∃h zs ys,hv= .pointer (some ⟨h,0,none⟩)/\zs.length=H.length/\ys.length=H.length/\xE w base h zs/\KI w zs H/\xM w gv ys/\JO w ys H
def HistPost (N:List tr.Zn)(w:World)(e:Ending)(w':World):Prop:=∃H hv gv,e= .returned (.tuple #[hv,gv,.bool true])/\H.length<=N.length/\(∀x∈N,zn.yG x.ap x.l=none->H≠[])/\Below w.heap.size w w'/\
 ((H= []/\hv= .pointer none/\gv= .slice none 0 0)\/HasHist w.heap.size w' H hv gv)
def HNow (base:Nat)(w:World)(H:List tr.Zn)(hv gv:Value):Prop:=(H= []/\hv= .pointer none/\gv= .slice none 0 0)\/∃h g rg roff KY zs ys,uI base w H hv gv h g rg roff KY zs ys
theorem uI.has {base:Nat}{w:World}{H:List tr.Zn}{hv gv:Value}{h g rg roff KY:Nat}{zs ys:List Nat}(s:uI base w H hv gv h g rg roff KY zs ys):HasHist base w H hv gv:=
 ⟨s.ok,s.chain,s.l8,h,zs,ys,s.ehv,s.lz,s.ly,s.hist.at,s.zns.1,s.row,s.zns.2⟩
theorem history_any (N:List tr.Zn)(hN:N.length<=1048576)(v:Value)(w:World)(hv:LotsAt w v N):
 Calls Tryz.prog 6 #[v] w λe w'=>HistPost N w e w':=by
 have HV:=qe hv;obtain⟨va,vc,rfl,-,-⟩:=id hv;clear hv
 go_enter Tryz.func6,Tryz.ntmps6
 go_wp2_with fail
 go_loopw [18,5,6] (λkv hv gv wr=>∃k:Nat,k<=N.length/\kv= .int .i64 (k:Int)/\∃(H:List tr.Zn) (hx gx:Value),hx=hv/\gx=gv/\H.length<=k/\(∀j (h1:j<N.length),j<k->zn.yG N[j].ap N[j].l=none->H≠[])/\Hid (Below w.heap.size w wr)/\Hid (HNow w.heap.size wr H hx gx)) (λkv _ _ _=>N.length-(intOf kv).toNat)
 case atStart=>exact⟨0,gU _,rfl,[],_,_,rfl,rfl,gI _,λj _ h=>absurd h (Nat.not_lt_zero _),qe (gJ _ _),qe (.inl ⟨rfl,rfl,rfl⟩)⟩
 case round=>
  obtain⟨k,hk,rfl,H,hv,gv,rfl,rfl,hHk,hHN,HBW,HNW⟩:=hrel;have HHK:=qe hHk;have HHN:=qe hHN;clear hHk hHN;obtain⟨wr3,hw3⟩:=yM wr;subst hw3;by_cases hlt:k<N.length
  ·have hki:(k:Int)<(N.length:Int):=by omega
   have ew:IntKind.i64.wrap ((k:Int)+1)=(k:Int)+1:=Hg _ (by omega);obtain⟨_,_,hv,-,hr⟩:=HV.out.below HBW.out;simp only[gL,true_and]at hv;obtain⟨rfl,rfl⟩:=hv;obtain⟨b,off,rv,rfl,hbl,c0,c1,hrv,hfa,hap,hok,hsz⟩:=hr k hlt;obtain⟨x,hx⟩:=yM (N[k]);rw[<- hx]at c0 hrv hap hok hsz;obtain⟨w1,hw1⟩:=yM (wr3.alloc (.cells #[.string x.ap,rv] 42));obtain⟨b8,hb8⟩:=yM wr3.heap.size;have hB1:Below wr3.heap.size wr3 w1:=by rw[hw1];exact(gJ _ _).alloc (gI _) _
   have hn1:w1.heap[b8]? =some (.cells #[.string x.ap,rv] 42 (0,0)):=by rw[hw1,hb8];exact qz rfl
   have x0:w1.cell? ⟨b8,0,none⟩=some (.string x.ap):=by rw[qg hn1];rfl
   have x1:w1.cell? ⟨b8,1,none⟩=some rv:=by rw[qg hn1];rfl
   have HBO:=qe (both7_any x.ap hap x.l hok hsz rv hfa w1 (hrv.below hB1));obtain⟨rva,rvc,rfl,-⟩:=id hrv;have HX:=qe hx;have HW1:=qe hw1;have HB8:=qe hb8;have HB1:=qe hB1;have HLT:=qe hlt;clear hr hrv hfa hap hok hsz hx hw1 hb8 hB1 hn1 hbl;go_upto_region 6 with fail;rw[<- HW1.out,<- HB8.out];clear c0 c1;go_wp2_with fail;refine HBO.out.mono ?_;rintro e w2 ⟨hB2,hp⟩;have QW:=qe (gm HB1.out hB2);have ZZ:=qe hB2;clear hB2 x0 x1;rcases HNW.out with⟨rfl,rfl,rfl⟩|⟨h,g,rg,roff,KY,zs,ys,hst⟩
   ·rcases hp with⟨hne,rfl⟩|⟨hne,z,y,L,hso,hva,rfl,hsf⟩
    ·have HNE:=qe hne;clear hne;go_wp2_with fail;refine(newHistory_nil w2).mono ?_;rintro e wN ⟨rfl,hE⟩;obtain rfl:=hE.symm;clear hE;go_wp2_with fail
     go_roundw
     case rel=>exact⟨k+1,by omega,by go_num,[],_,_,rfl,rfl,by simp,(by
      intro j h1 h2 h3 h4;by_cases e:j<k
      ·exact HHN.out j h1 e h3 h4
      ·obtain rfl:j=k:=by omega
       rw[<- HX.out]at h3;exact HNE.out h3),qe (gm HBW.out QW.out),qe (.inl ⟨rfl,rfl,rfl⟩)⟩
     case measure=>simp[intOf];omega
    ·have HSF:=qe hsf;have HVA:=qe hva;clear hne hso hsf hva;go_wp2_with fail;refine(newHistory_any z w2).mono ?_;rintro e w3 ⟨h,rfl,hB3,hh⟩;obtain⟨w4,hw4⟩:=yM (w3.alloc (.cells #[qX y] 44));have hF:∃g,uI w.heap.size w4 [⟨x.ap,L⟩] (.pointer (some ⟨h,0,none⟩)) (.slice (some ⟨w3.heap.size,0,none⟩) 1 1) h g w3.heap.size 0 1 [z] [y]:=
      uI.first HVA.out HSF.out (gI _) (gQ HBW.out.size QW.out.size) hB3 hh (gJ _ _) hw4
     have hB4:Below w3.heap.size w3 w4:=by rw[hw4];exact(gJ _ _).alloc (gI _) _
     have HF:=qe hF;have HB24:=qe (gm hB3 hB4);have HW4:=qe hw4;clear hF hB3 hB4 hh hw4;go_wp2_with fail
     go_roundw
     case rel=>exact⟨k+1,by omega,by go_num,[⟨x.ap,L⟩],_,_,rfl,rfl,by simp,(by intro j h1 h2 h3;simp),qe (by rw[<- HW4.out];exact HBW.out.trans ((gm QW.out HB24.out).mono HBW.out.size)),qe (by
      rw[<- HW4.out];obtain⟨g,hF⟩:=HF.out;exact .inr ⟨_,_,_,_,_,_,_,hF⟩)⟩
     case measure=>simp[intOf];omega
   ·have hgl:=hst.glt;have HS2:=qe (hst.below QW.out);have HW02:=qe (gm HBW.out QW.out);obtain rfl:=hst.ehv;obtain rfl:=hst.egv;clear hst;rcases hp with⟨hne,rfl⟩|⟨hne,z,y,L,hso,hva,rfl,hsf⟩
    ·clear hne;go_wp2_with fail;refine(hadd_nil h w2).mono ?_;rintro e wN ⟨rfl,hE⟩;obtain rfl:=hE.symm;clear hE;go_wp2_with fail;refine(radded_nil _ _ _ w2).mono ?_;rintro e wN ⟨rfl,hE⟩;obtain rfl:=hE.symm;clear hE;obtain⟨n1,hn1⟩:=yM (ys.length-1);obtain⟨m,hm⟩:=yM ys.length;have hpos:0<ys.length:=by have:=HS2.out.ly;have:=HS2.out.ok.ne;omega
     have hcl:=xM.cellAt (by rw[<- HS2.out.egv];exact HS2.out.row);obtain⟨yl,hyl⟩:=yM (ys[n1]'(by omega));obtain⟨zl,hzl⟩:∃z,z=zs[n1]'(by have:=HS2.out.ly;have:=HS2.out.lz;omega):=⟨_,rfl⟩;have c1:=hcl.2.2.2 n1 (by omega);rw[<- hyl]at c1;obtain⟨Z1,hZ1⟩:=yM (tr.zh H n1);have hok1:=HS2.out.ok.ok n1 (by have:=HS2.out.ly;omega);obtain⟨lo1,hi1,hsf1,hhi1,-,-⟩:=HS2.out.safe n1 (by have:=HS2.out.ly;have:=HS2.out.lz;omega) (by omega);rw[<- hzl,<- hyl,<- hZ1]at hsf1;rw[<- hZ1]at hok1;obtain⟨hzf,gy,gc,hyc,hyr⟩:=id hsf1.now;have HZF:=qe hzf;have HYC:=qe hyc;have HYR:=qe hyr;have HOK1:=qe hok1
     have HZN:=qe (show ∀X,Below w2.heap.size w2 X->Calls Tryz.prog 31 #[.pointer (some ⟨h,0,none⟩)] X λe w'=>e= .returned (qX zl)/\Below X.heap.size X w' from λX hX=>by
      have h1:=Q3 w.heap.size h zs (by have:=HS2.out.ly;have:=HS2.out.lz;omega) (by have:=HS2.out.lz;have:=HS2.out.l8;omega) X (HS2.out.hist.below hX).at;have e:zs[zs.length-1]'(by have:=HS2.out.ly;have:=HS2.out.lz;omega)=zl:=by rw[hzl];congr 1;have:=HS2.out.ly;have:=HS2.out.lz;omega
      rw[e]at h1;exact h1)
     have HAX:=qe (show ∀X:World,Below w2.heap.size w2 X->Calls Tryz.prog 24 #[qX zl] X λe w'=>e= .returned (.string Z1.ap)/\Below X.heap.size X w' from λX hX=>by
      obtain⟨_,_,_,_,_,_,_,h2,_⟩:=(HZF.out.kept hX).v.parts;refine(uH zl Z1.ap _ _ _ X h2).mono ?_;rintro e w' ⟨rfl,rfl⟩;exact⟨rfl,gJ _ _⟩)
     have HRC:=qe (show ∀X:World,Below w2.heap.size w2 X->Calls Tryz.prog 23 #[qX zl] X λe w'=>jk Z1.l X e w' from λX hX=>
      kH _ zl Z1.ap Z1.l HOK1.out.small X (HZF.out.kept hX).v)
     have HSM:=qe (show ∀(X wA:World) (vA:Value),Below w2.heap.size w2 wA->wA.ownsRow X.heap.size 80 5 vA Z1.l.length (qw Z1.l)->Calls Tryz.prog 22 #[vA,.slice (some ⟨gy,0,none⟩) Z1.l.length gc] wA λe w'=>e= .returned (.bool true)/\Below wA.heap.size wA w' from λX wA vA hA hoA=>by
      have h:=Qk Z1.l Z1.l (by have:=HOK1.out.small;omega) vA _ wA (qF hoA) (HYR.out.below hA);rw[gF rfl]at h;exact h)
     have zk:=qe (show ∀X:World,Below w2.heap.size w2 X->Below w2.heap.size w2 X/\X.cell? ⟨yl,1,none⟩=some (.slice (some ⟨gy,0,none⟩) Z1.l.length gc)/\X.cell? ⟨yl,0,none⟩=some (.string Z1.ap) from λX hX=>
      ⟨hX,(uU HYC.out HYR.out hX).2.1,(uU HYC.out HYR.out hX).1⟩)
     have yc0:=(zk.out w2 (gJ _ _)).2.2;have yc1:=(zk.out w2 (gJ _ _)).2.1;have e1:(ys.length:Int)-1=(n1:Int):=by omega
     have e2:IntKind.i64.wrap (n1:Int)=(n1:Int):=Hg _ (by have:=HS2.out.ly;have:=HS2.out.l8;omega);have e3:(n1:Int)<(ys.length:Int):=by omega
     have e4:n1<ys.length:=by omega
     have HST:=qe HS2.out;clear hn1 hm hpos hcl hyl hzl hZ1 hok1 hsf1 hhi1 hzf hyc hyr;go_upto_region 21 with fail;clear e1 e2 e3 e4 c1
     go_cut [85] (λs wx=>s= .bool false/\Below w2.heap.size w2 wx)
     case first=>
      go_region_held3 (λX=>Below w2.heap.size w2 X/\X.cell? ⟨yl,1,none⟩=some (.slice (some ⟨gy,0,none⟩) Z1.l.length gc)/\X.cell? ⟨yl,0,none⟩=some (.string Z1.ap))
       (first | assumption | exact zk.out _ (gJ _ _).drew | (go_split_ands;exact zk.out _ (by assumption)))
       (first
        | (go_at_call 31;(with_reducible refine(HZN.out _ (by go_split_ands;assumption)).mono ?_);rintro e wX ⟨rfl,hbX⟩;go_split_ands;have uX:=Below.trans (B:=w2.heap.size) (a:=w2) (by assumption) (hbX.mono (Below.size (by assumption))))
        | (go_at_call 24;(with_reducible refine(HAX.out _ (by go_split_ands;assumption)).mono ?_);rintro e wX ⟨rfl,hbX⟩;go_split_ands;have uX:=Below.trans (B:=w2.heap.size) (a:=w2) (by assumption) (hbX.mono (Below.size (by assumption))))
        | (go_at_call 23;(with_reducible refine(HRC.out _ (by go_split_ands;assumption)).mono ?_);rintro e wA ⟨vA,rfl,hbA,hoA⟩;go_split_ands;have uY:=Below.trans (B:=w2.heap.size) (a:=w2) (by assumption) (hbA.mono (Below.size (by assumption))))
        | (go_at_call 22;(with_reducible refine(HSM.out _ _ _ (by assumption) hoA).mono ?_);rintro e wB ⟨rfl,hbB⟩;have VN:=Below.trans (B:=w2.heap.size) (a:=w2) uY (hbB.mono (Below.size uY))))
      all_goals (go_wp2_with fail;go_meet;exact⟨rfl,VN⟩)
     obtain⟨rfl,hBc⟩:=hcut;have HBc:=qe hBc;clear hBc yc0 yc1;go_wp2_with fail
     go_roundw
     case rel=>exact⟨k+1,by omega,by go_num,H,_,_,rfl,rfl,(by have h9:=(gI H.length);have h10:=HHK.out;omega),(by intro j h1 h2 h3 h4;have h5:=HST.out.ok.ne;rw[h4]at h5;simp at h5),qe ((HW02.out).trans (HBc.out.mono (Below.size HW02.out))),qe (.inr ⟨_,_,_,_,_,_,_,HST.out.below HBc.out⟩)⟩
     case measure=>simp[intOf];omega
    ·have HSF:=qe hsf;have HVA:=qe hva;have HGL:=qe (show h<w1.heap.size/\g<w1.heap.size by have:=HB1.out.size;omega);clear hne hso hsf hva hgl;go_wp2_with fail;refine(hadd_any w.heap.size h g H zs (by have:=HS2.out.lz;have:=HS2.out.ok.ne;omega) (by have:=HS2.out.lz;have:=HS2.out.l8;omega) ⟨x.ap,L⟩ HVA.out _ z w2 HW02.out.size HS2.out.hist HS2.out.zns.1 HSF.out.now.1).mono ?_;rintro e w3 (⟨hE,rfl,hB3⟩|⟨hE,rfl,hB3,hkeep,g',hg',hh'⟩)
     ·have HE:=qe hE;obtain⟨ec,hec⟩:=yM (tr.Zi H ⟨x.ap,L⟩);rw[<- hec];have HEC:=qe hec;have Ul:=qe hB3;have HS3:=qe (HS2.out.below hB3);have HRA:=qe (radded_any H ys (by have:=HS2.out.ly;have:=HS2.out.ok.ne;omega) (by have:=HS2.out.ly;have:=HS2.out.l8;omega) ⟨x.ap,L⟩ HVA.out (by have:=qV HVA.out.ap;show x.ap.size<=_;omega) y _ w3 HS3.out.row HS3.out.zns.2 (HSF.out.now.2.below hB3));clear hE hec hB3;go_wp2_with fail;refine HRA.out.mono ?_;rintro e w4 ⟨hB4,⟨-,rfl⟩|⟨h0,-⟩⟩
      ·rw[<- HEC.out];have HS4:=qe (HS3.out.below hB4);have HW04:=qe (HW02.out.trans ((gm Ul.out hB4).mono HW02.out.size));have d0:(ec != ec)=false:=by rw[Hy]
       clear hB4;obtain⟨n1,hn1⟩:=yM (ys.length-1);obtain⟨m,hm⟩:=yM ys.length;have hpos:0<ys.length:=by have:=HS4.out.ly;have:=HS4.out.ok.ne;omega
       have hcl:=xM.cellAt (by rw[<- HS4.out.egv];exact HS4.out.row);obtain⟨yl,hyl⟩:=yM (ys[n1]'(by omega));obtain⟨zl,hzl⟩:∃z,z=zs[n1]'(by have:=HS4.out.ly;have:=HS4.out.lz;omega):=⟨_,rfl⟩;have c1:=hcl.2.2.2 n1 (by omega);rw[<- hyl]at c1;obtain⟨Z1,hZ1⟩:=yM (tr.zh H n1);have hok1:=HS4.out.ok.ok n1 (by have:=HS4.out.ly;omega);obtain⟨lo1,hi1,hsf1,hhi1,-,-⟩:=HS4.out.safe n1 (by have:=HS4.out.ly;have:=HS4.out.lz;omega) (by omega);rw[<- hzl,<- hyl,<- hZ1]at hsf1;rw[<- hZ1]at hok1;obtain⟨hzf,gy,gc,hyc,hyr⟩:=id hsf1.now;have HZF:=qe hzf;have HYC:=qe hyc;have HYR:=qe hyr;have HOK1:=qe hok1
       have HZN:=qe (show ∀X,Below w4.heap.size w4 X->Calls Tryz.prog 31 #[.pointer (some ⟨h,0,none⟩)] X λe w'=>e= .returned (qX zl)/\Below X.heap.size X w' from λX hX=>by
        have h1:=Q3 w.heap.size h zs (by have:=HS4.out.ly;have:=HS4.out.lz;omega) (by have:=HS4.out.lz;have:=HS4.out.l8;omega) X (HS4.out.hist.below hX).at;have e:zs[zs.length-1]'(by have:=HS4.out.ly;have:=HS4.out.lz;omega)=zl:=by rw[hzl];congr 1;have:=HS4.out.ly;have:=HS4.out.lz;omega
        rw[e]at h1;exact h1)
       have HAX:=qe (show ∀X:World,Below w4.heap.size w4 X->Calls Tryz.prog 24 #[qX zl] X λe w'=>e= .returned (.string Z1.ap)/\Below X.heap.size X w' from λX hX=>by
        obtain⟨_,_,_,_,_,_,_,h2,_⟩:=(HZF.out.kept hX).v.parts;refine(uH zl Z1.ap _ _ _ X h2).mono ?_;rintro e w' ⟨rfl,rfl⟩;exact⟨rfl,gJ _ _⟩)
       have HRC:=qe (show ∀X:World,Below w4.heap.size w4 X->Calls Tryz.prog 23 #[qX zl] X λe w'=>jk Z1.l X e w' from λX hX=>
        kH _ zl Z1.ap Z1.l HOK1.out.small X (HZF.out.kept hX).v)
       have HSM:=qe (show ∀(X wA:World) (vA:Value),Below w4.heap.size w4 wA->wA.ownsRow X.heap.size 80 5 vA Z1.l.length (qw Z1.l)->Calls Tryz.prog 22 #[vA,.slice (some ⟨gy,0,none⟩) Z1.l.length gc] wA λe w'=>e= .returned (.bool true)/\Below wA.heap.size wA w' from λX wA vA hA hoA=>by
        have h:=Qk Z1.l Z1.l (by have:=HOK1.out.small;omega) vA _ wA (qF hoA) (HYR.out.below hA);rw[gF rfl]at h;exact h)
       have zk:=qe (show ∀X:World,Below w4.heap.size w4 X->Below w4.heap.size w4 X/\X.cell? ⟨yl,1,none⟩=some (.slice (some ⟨gy,0,none⟩) Z1.l.length gc)/\X.cell? ⟨yl,0,none⟩=some (.string Z1.ap) from λX hX=>
        ⟨hX,(uU HYC.out HYR.out hX).2.1,(uU HYC.out HYR.out hX).1⟩)
       have yc0:=(zk.out w4 (gJ _ _)).2.2;have yc1:=(zk.out w4 (gJ _ _)).2.1;have e1:(ys.length:Int)-1=(n1:Int):=by omega
       have e2:IntKind.i64.wrap (n1:Int)=(n1:Int):=Hg _ (by have:=HS4.out.ly;have:=HS4.out.l8;omega);have e3:(n1:Int)<(ys.length:Int):=by omega
       have e4:n1<ys.length:=by omega
       have HST:=qe HS4.out;clear hn1 hm hpos hcl hyl hzl hZ1 hok1 hsf1 hhi1 hzf hyc hyr;go_upto_region 21 with fail;clear e1 e2 e3 e4 c1
       go_cut [85] (λs wx=>s= .bool false/\Below w4.heap.size w4 wx)
       case first=>
        go_region_held3 (λX=>Below w4.heap.size w4 X/\X.cell? ⟨yl,1,none⟩=some (.slice (some ⟨gy,0,none⟩) Z1.l.length gc)/\X.cell? ⟨yl,0,none⟩=some (.string Z1.ap))
         (first | assumption | exact zk.out _ (gJ _ _).drew | (go_split_ands;exact zk.out _ (by assumption)))
         (first
          | (go_at_call 31;(with_reducible refine(HZN.out _ (by go_split_ands;assumption)).mono ?_);rintro e wX ⟨rfl,hbX⟩;go_split_ands;have uX:=Below.trans (B:=w4.heap.size) (a:=w4) (by assumption) (hbX.mono (Below.size (by assumption))))
          | (go_at_call 24;(with_reducible refine(HAX.out _ (by go_split_ands;assumption)).mono ?_);rintro e wX ⟨rfl,hbX⟩;go_split_ands;have uX:=Below.trans (B:=w4.heap.size) (a:=w4) (by assumption) (hbX.mono (Below.size (by assumption))))
          | (go_at_call 23;(with_reducible refine(HRC.out _ (by go_split_ands;assumption)).mono ?_);rintro e wA ⟨vA,rfl,hbA,hoA⟩;go_split_ands;have uY:=Below.trans (B:=w4.heap.size) (a:=w4) (by assumption) (hbA.mono (Below.size (by assumption))))
          | (go_at_call 22;(with_reducible refine(HSM.out _ _ _ (by assumption) hoA).mono ?_);rintro e wB ⟨rfl,hbB⟩;have VN:=Below.trans (B:=w4.heap.size) (a:=w4) uY (hbB.mono (Below.size uY))))
        all_goals (go_wp2_with fail;go_meet;exact⟨rfl,VN⟩)
       obtain⟨rfl,hBc⟩:=hcut;have HBc:=qe hBc;clear hBc yc0 yc1;go_wp2_with fail
       go_roundw
       case rel=>exact⟨k+1,by omega,by go_num,H,_,_,rfl,rfl,(by have h9:=(gI H.length);have h10:=HHK.out;omega),(by intro j h1 h2 h3 h4;have h5:=HST.out.ok.ne;rw[h4]at h5;simp at h5),qe ((HW04.out).trans (HBc.out.mono (Below.size HW04.out))),qe (.inr ⟨_,_,_,_,_,_,_,HST.out.below HBc.out⟩)⟩
       case measure=>simp[intOf];omega
      ·exact absurd h0 HE.out
     ·have HE:=qe hE;have hs23:w2.heap.size<=w3.heap.size:=hB3.size;have hlo:h<w2.heap.size/\g<w2.heap.size:=HS2.out.glt;have hrow3:xM w3 (.slice (some ⟨rg,roff,none⟩) ys.length KY) ys:=by
       obtain⟨-,c2,c3,c4⟩:=xM.cellAt HS2.out.row;exact⟨rg,roff,KY,rfl,c2,by omega,λj hj=>(World.cell?_of_block (w:=w2) (a:=⟨rg,roff+j,none⟩) (hkeep rg c3 HS2.out.far.1 HS2.out.far.2)).trans (c4 j hj)⟩
      have hzn3:JO w3 ys H:=⟨HS2.out.ly,λj h1 h2=>by
       obtain⟨lo,hi,a,b,c,d⟩:=HS2.out.safe j (by rw[HS2.out.lz];exact h2) h1;have ok1:=HS2.out.ok.ok j h2;rw[<- tr.Qd h2];exact⟨ok1,by have:=qV ok1.ap;omega,(a.next hs23 λb' e1 e2=>hkeep b' (by omega) (λe=>c ⟨e ▸ e1,e ▸ e2⟩) (λe=>d ⟨e ▸ e1,e ▸ e2⟩)).now.2⟩⟩
      have hsf3:=HSF.out.next hs23 λb' e1 e2=>hkeep b' e2 (λe=>by have:=HGL.out.1;omega) (λe=>by have:=HGL.out.2;omega);have HRA:=qe (radded_any H ys (by have:=HS2.out.ly;have:=HS2.out.ok.ne;omega) (by have:=HS2.out.ly;have:=HS2.out.l8;omega) ⟨x.ap,L⟩ HVA.out (by have:=qV HVA.out.ap;show x.ap.size<=_;omega) y _ w3 hrow3 hzn3 hsf3.now.2);have Ul:=qe hB3;have HKP:=qe hkeep;have HGP:=qe hg';have HHP:=qe hh';clear hE hB3 hkeep hg' hh' hs23 hlo hrow3 hzn3 hsf3;go_wp2_with fail;refine HRA.out.mono ?_;rintro e w4 ⟨hB4,⟨h0,-⟩|⟨-,v',rfl,hr4,hf4⟩⟩
      ·exact absurd HE.out h0
      ·obtain⟨rg',roff',rcap',hS4⟩:=HS2.out.more (Z:=⟨x.ap,L⟩) (lo:=w1.heap.size) (hi:=w2.heap.size) HVA.out HE.out HSF.out HGL.out (gI _) Ul.out.size HKP.out HGP.out HHP.out hB4 hr4 hf4;have HS4:=qe hS4;have HW04:=qe ((HW02.out.trans Ul.out).trans (hB4.mono (gQ HW02.out.size Ul.out.size)));obtain rfl:=hS4.egv;obtain⟨ys',hys⟩:=yM ((ys ++ [y]).drop ((ys ++ [y]).length-8));obtain⟨zs',hzs⟩:=yM ((zs ++ [z]).drop ((zs ++ [z]).length-8));rw[<- hys,<- hzs]at HS4;rw[<- hys];obtain⟨H',hH'⟩:=yM (tr.addL H ⟨x.ap,L⟩);have HLN:=qe (show H'.length<=H.length+1 by rw[hH',tr.XW];omega);rw[<- hH']at HS4;clear hB4 hr4 hf4 hS4 hys hzs hH';obtain⟨n1,hn1⟩:=yM (ys'.length-1);obtain⟨m,hm⟩:=yM ys'.length;have hpos:0<ys'.length:=by have:=HS4.out.ly;have:=HS4.out.ok.ne;omega
       have hcl:=xM.cellAt (by rw[<- HS4.out.egv];exact HS4.out.row);obtain⟨yl,hyl⟩:=yM (ys'[n1]'(by omega));obtain⟨zl,hzl⟩:∃z,z=zs'[n1]'(by have:=HS4.out.ly;have:=HS4.out.lz;omega):=⟨_,rfl⟩;have c1:=hcl.2.2.2 n1 (by omega);rw[<- hyl]at c1;obtain⟨Z1,hZ1⟩:=yM (tr.zh H' n1);have hok1:=HS4.out.ok.ok n1 (by have:=HS4.out.ly;omega);obtain⟨lo1,hi1,hsf1,hhi1,-,-⟩:=HS4.out.safe n1 (by have:=HS4.out.ly;have:=HS4.out.lz;omega) (by omega);rw[<- hzl,<- hyl,<- hZ1]at hsf1;rw[<- hZ1]at hok1;obtain⟨hzf,gy,gc,hyc,hyr⟩:=id hsf1.now;have HZF:=qe hzf;have HYC:=qe hyc;have HYR:=qe hyr;have HOK1:=qe hok1
       have HZN:=qe (show ∀X,Below w4.heap.size w4 X->Calls Tryz.prog 31 #[.pointer (some ⟨h,0,none⟩)] X λe w'=>e= .returned (qX zl)/\Below X.heap.size X w' from λX hX=>by
        have h1:=Q3 w.heap.size h zs' (by have:=HS4.out.ly;have:=HS4.out.lz;omega) (by have:=HS4.out.lz;have:=HS4.out.l8;omega) X (HS4.out.hist.below hX).at;have e:zs'[zs'.length-1]'(by have:=HS4.out.ly;have:=HS4.out.lz;omega)=zl:=by rw[hzl];congr 1;have:=HS4.out.ly;have:=HS4.out.lz;omega
        rw[e]at h1;exact h1)
       have HAX:=qe (show ∀X:World,Below w4.heap.size w4 X->Calls Tryz.prog 24 #[qX zl] X λe w'=>e= .returned (.string Z1.ap)/\Below X.heap.size X w' from λX hX=>by
        obtain⟨_,_,_,_,_,_,_,h2,_⟩:=(HZF.out.kept hX).v.parts;refine(uH zl Z1.ap _ _ _ X h2).mono ?_;rintro e w' ⟨rfl,rfl⟩;exact⟨rfl,gJ _ _⟩)
       have HRC:=qe (show ∀X:World,Below w4.heap.size w4 X->Calls Tryz.prog 23 #[qX zl] X λe w'=>jk Z1.l X e w' from λX hX=>
        kH _ zl Z1.ap Z1.l HOK1.out.small X (HZF.out.kept hX).v)
       have HSM:=qe (show ∀(X wA:World) (vA:Value),Below w4.heap.size w4 wA->wA.ownsRow X.heap.size 80 5 vA Z1.l.length (qw Z1.l)->Calls Tryz.prog 22 #[vA,.slice (some ⟨gy,0,none⟩) Z1.l.length gc] wA λe w'=>e= .returned (.bool true)/\Below wA.heap.size wA w' from λX wA vA hA hoA=>by
        have h:=Qk Z1.l Z1.l (by have:=HOK1.out.small;omega) vA _ wA (qF hoA) (HYR.out.below hA);rw[gF rfl]at h;exact h)
       have zk:=qe (show ∀X:World,Below w4.heap.size w4 X->Below w4.heap.size w4 X/\X.cell? ⟨yl,1,none⟩=some (.slice (some ⟨gy,0,none⟩) Z1.l.length gc)/\X.cell? ⟨yl,0,none⟩=some (.string Z1.ap) from λX hX=>
        ⟨hX,(uU HYC.out HYR.out hX).2.1,(uU HYC.out HYR.out hX).1⟩)
       have yc0:=(zk.out w4 (gJ _ _)).2.2;have yc1:=(zk.out w4 (gJ _ _)).2.1;have e1:(ys'.length:Int)-1=(n1:Int):=by omega
       have e2:IntKind.i64.wrap (n1:Int)=(n1:Int):=Hg _ (by have:=HS4.out.ly;have:=HS4.out.l8;omega);have e3:(n1:Int)<(ys'.length:Int):=by omega
       have e4:n1<ys'.length:=by omega
       have HST:=qe HS4.out;clear hn1 hm hpos hcl hyl hzl hZ1 hok1 hsf1 hhi1 hzf hyc hyr;go_upto_region 21 with fail;clear e1 e2 e3 e4 c1
       go_cut [85] (λs wx=>s= .bool false/\Below w4.heap.size w4 wx)
       case first=>
        go_region_held3 (λX=>Below w4.heap.size w4 X/\X.cell? ⟨yl,1,none⟩=some (.slice (some ⟨gy,0,none⟩) Z1.l.length gc)/\X.cell? ⟨yl,0,none⟩=some (.string Z1.ap))
         (first | assumption | exact zk.out _ (gJ _ _).drew | (go_split_ands;exact zk.out _ (by assumption)))
         (first
          | (go_at_call 31;(with_reducible refine(HZN.out _ (by go_split_ands;assumption)).mono ?_);rintro e wX ⟨rfl,hbX⟩;go_split_ands;have uX:=Below.trans (B:=w4.heap.size) (a:=w4) (by assumption) (hbX.mono (Below.size (by assumption))))
          | (go_at_call 24;(with_reducible refine(HAX.out _ (by go_split_ands;assumption)).mono ?_);rintro e wX ⟨rfl,hbX⟩;go_split_ands;have uX:=Below.trans (B:=w4.heap.size) (a:=w4) (by assumption) (hbX.mono (Below.size (by assumption))))
          | (go_at_call 23;(with_reducible refine(HRC.out _ (by go_split_ands;assumption)).mono ?_);rintro e wA ⟨vA,rfl,hbA,hoA⟩;go_split_ands;have uY:=Below.trans (B:=w4.heap.size) (a:=w4) (by assumption) (hbA.mono (Below.size (by assumption))))
          | (go_at_call 22;(with_reducible refine(HSM.out _ _ _ (by assumption) hoA).mono ?_);rintro e wB ⟨rfl,hbB⟩;have VN:=Below.trans (B:=w4.heap.size) (a:=w4) uY (hbB.mono (Below.size uY))))
        all_goals (go_wp2_with fail;go_meet;exact⟨rfl,VN⟩)
       obtain⟨rfl,hBc⟩:=hcut;have HBc:=qe hBc;clear hBc yc0 yc1;go_wp2_with fail
       go_roundw
       case rel=>exact⟨k+1,by omega,by go_num,H',_,_,rfl,rfl,(by have h9:=HLN.out;have h10:=HHK.out;omega),(by intro j h1 h2 h3 h4;have h5:=HST.out.ok.ne;rw[h4]at h5;simp at h5),qe ((HW04.out).trans (HBc.out.mono (Below.size HW04.out))),qe (.inr ⟨_,_,_,_,_,_,_,HST.out.below HBc.out⟩)⟩
       case measure=>simp[intOf];omega
  ·obtain rfl:k=N.length:=by omega
   clear hlt
   have HF:=qe (show HistPost N w (.returned (.tuple #[hv,gv,.bool true])) wr3 from⟨H,hv,gv,rfl,HHK.out,(by
    intro x hx h1;obtain⟨j,hj,rfl⟩:=List.getElem_of_mem hx;exact HHN.out j hj hj h1),HBW.out,HNW.out.imp id λ⟨_,_,_,_,_,_,_,h⟩=>h.has⟩)
   go_wp2_with fail
   go_ret3
   exact HF.out
end Go.Proofs.YtpcmilhjpmlbpaaGreatDoor
