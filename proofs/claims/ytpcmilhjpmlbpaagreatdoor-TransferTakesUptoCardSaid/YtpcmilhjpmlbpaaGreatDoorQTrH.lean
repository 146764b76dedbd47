import Derived.Test.YtpcmilhjpmlbpaaGreatDoorQTrT
import Derived.Shelf.SlGeneric
import Derived.Shelf.SlicesE.Clone
import Derived.Ground.SlsfProg
import Derived.Ground.SlgnProg
import Derived.Deep.RegionWith
import Derived.Deep.CutBlock
set_option maxRecDepth 100000
set_option maxHeartbeats 4000000
namespace Go.Proofs.YtpcmilhjpmlbpaaGreatDoor
open Go.RowKit Go.Shelf nm od
def xE (w:World)(base h:Nat)(zs:List Nat):Prop:=base<=h/\∃g cap,g≠h/\w.heap[h]? =some (.cells #[.slice (some ⟨g,0,none⟩) zs.length cap] 120 (0,0))/\
 w.ownsRow base 43 1 (.slice (some ⟨g,0,none⟩) zs.length cap) zs.length (zs.map qX)
theorem xE.below {w w':World}{base h:Nat}{zs:List Nat}(hh:xE w base h zs)(hB:Below w.heap.size w w'):xE w' base h zs:=by
 obtain⟨h1,g,cap,h2,h3,h4⟩:=hh;exact⟨h1,g,cap,h2,(hB.block h (qA h3)).trans h3,ownsRow_below h4 hB⟩
def KI (w:World)(zs:List Nat)(H:List tr.Zn):Prop:=zs.length=H.length/\∀k (h1:k<zs.length) (h2:k<H.length),tr.Ok H[k]/\∃top,jB w top zs[k] H[k].ap H[k].l
theorem KI.below {w w':World}{zs:List Nat}{H:List tr.Zn}(h:KI w zs H)(hB:Below w.heap.size w w'):KI w' zs H:=
 ⟨h.1,λk h1 h2=>by obtain⟨h3,top,h4⟩:=h.2 k h1 h2;exact⟨h3,top,h4.kept hB⟩⟩
def xM (w:World)(v:Value)(ys:List Nat):Prop:=∃g off cap,v= .slice (some ⟨g,off,none⟩) ys.length cap/\ys.length<=cap/\g<w.heap.size/\∀k (hk:k<ys.length),w.cell? ⟨g,off+k,none⟩=some (qX ys[k])
theorem xM.below {w w':World}{v:Value}{ys:List Nat}(h:xM w v ys)(hB:Below w.heap.size w w'):xM w' v ys:=by
 obtain⟨g,off,cap,h1,h2,h3,h4⟩:=h;exact⟨g,off,cap,h1,h2,gN h3 hB.size,λk hk=>(hB.cell (p:=⟨g,_,none⟩) h3).trans (h4 k hk)⟩
def JO (w:World)(ys:List Nat)(H:List tr.Zn):Prop:=ys.length=H.length/\∀k (h1:k<ys.length) (h2:k<H.length),tr.Ok H[k]/\H[k].ap.size<=1099511627776/\uQ w ys[k] H[k].ap H[k].l
theorem JO.below {w w':World}{ys:List Nat}{H:List tr.Zn}(h:JO w ys H)(hB:Below w.heap.size w w'):JO w' ys H:=
 ⟨h.1,λk h1 h2=>by obtain⟨h3,h4,h5⟩:=h.2 k h1 h2;exact⟨h3,h4,h5.below hB⟩⟩
theorem xE.cells {w:World}{base h:Nat}{zs:List Nat}(hh:xE w base h zs):∃g cap,g<w.heap.size/\zs.length<=cap/\w.cell? ⟨h,0,none⟩=some (.slice (some ⟨g,0,none⟩) zs.length cap)/\∀k (hk:k<zs.length),w.cell? ⟨g,k,none⟩=some (qX zs[k]):=by
 obtain⟨h1,g,cap,h2,h3,h4⟩:=hh;refine⟨g,cap,(h4.lt g rfl).2,?_,by rw[qg h3];rfl,λk hk=>?_⟩
 ·obtain⟨_,_,hv,hle⟩:=qj h4;simp only[gL,true_and]at hv;obtain⟨_,rfl⟩:=hv;exact hle
 ·have h5:=h4.cellAt k (by rw[Nat.mul_one];exact hk);rw[h5,List.getElem?_map,List.getElem?_eq_getElem hk];rfl
theorem Q3 (base h:Nat)(zs:List Nat)(h0:0<zs.length)(hl:zs.length<=1000)(w:World)(hh:xE w base h zs):
 Calls Tryz.prog 31 #[.pointer (some ⟨h,0,none⟩)] w λe w'=>e= .returned (qX (zs[zs.length-1]'(by omega)))/\Below w.heap.size w w':=by
 obtain⟨g,cap,-,hcap,h1,h2⟩:=hh.cells;obtain⟨z,hz⟩:=yM (zs[zs.length-1]'(by omega));have c1:=h2 (zs.length-1) (by omega);rw[<- hz]at c1 ⊢;obtain⟨n,hn⟩:=yM zs.length;rw[<- hn]at h0 hl hcap h1 c1;obtain⟨n1,hn1⟩:=yM (n-1);rw[<- hn1]at c1;have e1:(n:Int)-1=(n1:Int):=by omega
 have e2:IntKind.i64.wrap (n1:Int)=(n1:Int):=Hg _ (by omega);have e3:(n1:Int)<(n:Int):=by omega
 have e4:n1<n:=by omega
 have k0:=qh h1;have k1:=qh c1;clear h1 c1 h2 hh hz hn hn1
 go_enter Tryz.func31,Tryz.ntmps31
 go_wp2_with fail;refine qp (by kernel_rfl) (by kernel_rfl) ?_
 repeat (with_reducible refine Hu (λK hK=>?_);go_simp;(try simp only[undef]);first | (with_reducible refine hK _ ?_;clear hK K))
 refine Hw ?_
 (try simp only[show Value.tuple #[]=undef from rfl])
 intro W hW;have hBW:Below w.heap.size w W:=by obtain⟨g,rfl⟩:=hW;exact qD _ g
 clear hW;clear k0 k1;go_wp2_with fail;go_ret;exact⟨rfl,hBW⟩
theorem newHistory_any (z:Nat)(w:World):
 Calls Tryz.prog 28 #[qX z] w λe w'=>∃h,e= .returned (.pointer (some ⟨h,0,none⟩))/\Below w.heap.size w w'/\xE w' w.heap.size h [z]:=by
 go_enter Tryz.func28,Tryz.ntmps28
 go_wp2_with fail;go_ret;refine⟨_,rfl,?_,?_,w.heap.size,1,?_,?_,?_⟩
 ·exact((gJ _ w).alloc (gI _) _).alloc (by simp) _
 ·simp
 ·simp
 ·exact qz (by simp)
 ·exact qm (World.ownsRow_lit w #[qX z] 1 (gI _) (by unfold maxLen;omega) rfl) λb hb=>Below.heap_alloc _ _ b (by
   simp only[Value.ownBlock,gM]at hb;subst hb;simp)
theorem newHistory_nil (w:World):Calls Tryz.prog 28 #[.pointer none] w λe w'=>e= .returned (.pointer none)/\w'=w:=by
 go_enter Tryz.func28,Tryz.ntmps28
 go_wp2_with fail;go_ret;exact⟨rfl,rfl⟩
theorem J2 (tz z:Nat)(Z:tr.Zn)(hv:tr.Ok Z)(w:World)(hz:jB w tz z Z.ap Z.l):
 Calls Tryz.prog 61 #[qX z] w λe w'=>e= .returned (.int .i64 (tr.yD Z))/\Below w.heap.size w w':=
 serial_any tz z Z.ap Z.l (tr.qZ Z) [] (tr.yx hv).1 (tr.Q8 hv) w hz.v
theorem Uy (y:Nat)(Z:tr.Zn)(hv:tr.Ok Z)(w:World)(hy:uQ w y Z.ap Z.l):
 Calls Tryz.prog 57 #[qX y] w λe w'=>e= .returned (.int .i64 (tr.yD Z))/\Below w.heap.size w w':=
 rserial_any y Z.ap Z.l hv (tr.qZ Z) [] (tr.yx hv).1 w hy
theorem info_rzp:(Tryz.prog.info? 44).map (λi=>(i.zero,i.size,i.bytes))=some (some (.pointer none),1,8):=by kernel_rfl
theorem info_zp:(Tryz.prog.info? 43).map (λi=>(i.zero,i.size,i.bytes))=some (some (.pointer none),1,8):=by kernel_rfl
theorem Qo {T:TypeId}{z:Value}{s b:Nat}(h:(Tryz.prog.info? T).map (λi=>(i.zero,i.size,i.bytes))=some (some z,s,b)):∃i,Tryz.prog.info? T=some i/\i.zero=some z/\i.size=s/\i.bytes=b:=by
 obtain⟨i,hi,he⟩:=Option.map_eq_some_iff.1 h;simp only[Prod.mk.injEq]at he;exact⟨i,hi,he.1,he.2.1,he.2.2⟩
def RFar (lo:Nat)(v:Value):Prop:=∃g off n c,v= .slice (some ⟨g,off,none⟩) n c/\lo<=g
def RAddPost (H:List tr.Zn)(ys:List Nat)(Z:tr.Zn)(y:Nat)(v:Value)(w:World)(e:Ending)(w':World):Prop:=Below w.heap.size w w'/\
 ((tr.Zi H Z≠0/\e= .returned (.tuple #[v,.int .i64 (tr.Zi H Z)]))\/(tr.Zi H Z=0/\∃v',e= .returned (.tuple #[v',.int .i64 0])/\xM w' v' ((ys ++ [y]).drop ((ys ++ [y]).length-8))/\RFar w.heap.size v'))
theorem xM.cellAt {w:World}{g off n cap:Nat}{ys:List Nat}(h:xM w (.slice (some ⟨g,off,none⟩) n cap) ys):n=ys.length/\n<=cap/\g<w.heap.size/\∀k (hk:k<ys.length),w.cell? ⟨g,off+k,none⟩=some (qX ys[k]):=by
 obtain⟨g',off',cap',hv,h2,h3,h4⟩:=h;simp only[gL,gM,Addr.mk.injEq,and_true]at hv;obtain⟨⟨rfl,rfl⟩,rfl,rfl⟩:=hv;exact⟨rfl,h2,h3,h4⟩
theorem radded_any (H:List tr.Zn)(ys:List Nat)(h0:0<ys.length)(h8:ys.length<=8)(Z:tr.Zn)(hZ:tr.Ok Z)(hap:Z.ap.size<=1099511627776)(y:Nat)(v:Value)(w:World)(hh:xM w v ys)(hzs:JO w ys H)(hy:uQ w y Z.ap Z.l):
 Calls Tryz.prog 30 #[v,qX y] w λe w'=>RAddPost H ys Z y v w e w':=by
 obtain⟨n,hn⟩:=yM ys.length;obtain⟨n1,hn1⟩:=yM (n-1);have hlt1:n1<ys.length:=by omega
 have hltH:n1<H.length:=by rw[<- hzs.1];exact hlt1
 obtain⟨g,off,cap,rfl,hcap,hgl,hc⟩:=id hh;obtain⟨hL1,hL2,hL3⟩:=hzs.2 n1 hlt1 hltH;have hlast:tr.qR H=H[n1]:=by unfold tr.qR;rw[<- hzs.1,<- hn,<- hn1];exact tr.Qd hltH
 obtain⟨z0,hz0⟩:=yM (ys[n1]);have c1:=hc n1 hlt1;rw[<- hz0]at c1 hL3;obtain⟨L,hL⟩:=yM (H[n1]);rw[<- hL]at hL1 hL2 hL3 hlast;have e1:(n:Int)-1=(n1:Int):=by omega
 have e2:IntKind.i64.wrap (n1:Int)=(n1:Int):=Hg _ (by omega);have e3:(n1:Int)<(n:Int):=by omega
 have e4:n1<n:=by omega
 have HL2:=qe hL2;have HL1:=qe hL1;have HL3:=qe hL3;have YJ:=qe hlast;have HN:=qe hn;have HC:=qe hc;have HY:=qe hy;have HZ:=qe hZ;have HGL:=qe hgl;have HCAP:=qe hcap;have H8:=qe h8;rw[<- hn];clear hh hzs hL1 hL2 hL3 hlast hn hn1 hz0 hL hc hy hZ hgl hcap hlt1 hltH h0 h8;have hL2:=HL2.out;obtain⟨gz,gc,hyc,-⟩:=id HY.out;obtain⟨gl,lc,hlc,-⟩:=id HL3.out;have y0:w.cell? ⟨y,0,none⟩=some (.string Z.ap):=by rw[qg hyc];rfl
 have l0:w.cell? ⟨z0,0,none⟩=some (.string L.ap):=by rw[qg hlc];rfl
 have ky:=qh y0;have kl:=qh l0;clear hyc hlc y0 l0;obtain⟨eq,heq⟩:=yM (qG Z.ap L.ap);have HEQ:=qe heq
 have CE:Hid (∀p,Calls Tryz.prog 55 #[.string Z.ap,.string L.ap] (gw w p) λe w''=>e= .returned (.bool eq)/\∃p',w''=gw w p'):=qe λp=>by
  rw[heq];exact qY (zT Z.ap L.ap hap hL2 _)
 clear heq hL2
 go_enter Tryz.func30,Tryz.ntmps30
 go_upto_region 4 with fail;clear c1 e1 e2 e3 e4;refine qp (by kernel_rfl) (by kernel_rfl) ?_
 repeat (with_reducible refine Hu (λK hK=>?_);go_simp;(try simp only[undef]);first | (with_reducible refine hK _ ?_;clear hK K) | (apply gW;refine⟨λ_=>?_,hK _ ?_⟩;(first | (go_at_call 55;with_reducible exact CE.out _));clear hK K) | (with_reducible refine⟨λ_ h=>(by cases h),?_⟩;with_reducible refine hK _ ?_;clear hK K))
 refine Hw ?_
 (try simp only[show Value.tuple #[]=undef from rfl])
 intro U hU;have hBU:Below w.heap.size w U:=by obtain⟨g,rfl⟩:=hU;exact qD _ g
 clear hU;clear ky kl;have HBU:=qe hBU;clear hBU
 cases eq
 ·have HA:=qe (show tr.Zi H Z=5 by unfold tr.Zi;rw[YJ.out,if_pos HEQ.out.symm]);go_wp2_with fail;go_ret2;exact⟨HBU.out,.inl ⟨by rw[HA.out];decide,by rw[HA.out];rfl⟩⟩
 ·have HS1:=qe (Uy y Z HZ.out U (HY.out.below HBU.out));go_wp2_with fail;refine HS1.out.mono ?_;rintro e w2 ⟨rfl,hB2⟩;have HB2:=qe (gm HBU.out hB2);clear hB2;go_wp2_with fail;refine(Uy z0 L HL1.out w2 (HL3.out.below HB2.out)).mono ?_;rintro e w3 ⟨rfl,hB3⟩;have HB3:=qe (gm HB2.out hB3);clear hB3;obtain⟨nb,hnb⟩:=yM (tr.zU (tr.yD Z) (tr.yD L));have CN:=qe (show Calls Tryz.prog 9 #[.int .i64 (tr.yD Z),.int .i64 (tr.yD L)] w3 λe w'=>e= .returned (.bool nb)/\w'=w3 by rw[hnb];exact rnewer_any _ _ w3);have HNB:=qe hnb;clear hnb;go_wp2_with fail;refine CN.out.mono ?_;rintro e wN ⟨rfl,hE⟩;obtain rfl:=hE.symm;clear hE
  cases nb
  ·have HA:=qe (show tr.Zi H Z=30 by unfold tr.Zi;rw[YJ.out,if_neg (by rw[<- HEQ.out];simp),if_pos HNB.out.symm]);go_wp2_with fail;go_ret2;exact⟨HB3.out,.inl ⟨by rw[HA.out];decide,by rw[HA.out];rfl⟩⟩
  ·have HA:=qe (show tr.Zi H Z=0 by unfold tr.Zi;rw[YJ.out,if_neg (by rw[<- HEQ.out];simp),if_neg (by rw[<- HNB.out];simp)]);obtain⟨i,hi,hz,hz1,hz2⟩:=Qo info_rzp;have HI:=qe hi;have HI2:=qe hz;have HI3:=qe hz1;have HI4:=qe hz2;clear hi hz hz1 hz2
   have HNEW:=qe (show ∀j u,(ys.map qX)[j]? =some u->w3.cell? ((⟨g,off,none⟩:Addr).add j)=some u from λj u hu=>by
    rw[List.getElem?_map]at hu;obtain⟨x,hx,rfl⟩:=Option.map_eq_some_iff.1 hu;obtain⟨hj,rfl⟩:=List.getElem?_eq_some_iff.1 hx;rw[Addr.add_lit];exact(HB3.out.cell (p:=⟨g,off+j,none⟩) HGL.out).trans (HC.out j hj))
   have HONE:=qe (show ∀u∈ys.map qX,u.oneCell'=true from λu hu=>by obtain⟨x,_,rfl⟩:=List.mem_map.1 hu;rfl);have HLN:=qe (show(ys.map qX).length=n*1 by rw[List.length_map,HN.out,Nat.mul_one]);have P1:=qe (show 0+n<=maxLen by have:=H8.out;have:=HN.out;unfold maxLen;omega);have P2:=qe (show(0+n)*8<=140737488355328 by have:=H8.out;have:=HN.out;omega);have HB3S:=qe HB3.out.size;have HNL:=qe (gZ w3 w.heap.size 44 1);go_wp2_with (at_builtin;refine qW _ rfl _ _ 25 rfl w.heap.size 44 i (.pointer none) 1 8 Tryz.underlying25 HI.out HI2.out HI3.out HI4.out rfl (by decide) _ _ _ rfl HNL.out ⟨g,off,none⟩ n cap (ys.map qX) rfl HLN.out HNEW.out HONE.out P1.out P2.out HB3S.out ?_);intro v4 w4 uk hg4 hn4;have HB4:=qe (HB3.out.grown hg4 HB3.out.size (λj hj=>by cases hj));have HO4:=qe (show w4.ownsRow w.heap.size 44 1 v4 n (ys.map qX) by simpa using uk);clear uk hg4 hn4 P1 P2 HNL HNEW;obtain⟨a4,c4,rfl,-⟩:=qj HO4.out;obtain⟨w5,hw5⟩:=yM (w4.alloc (.cells #[qX y] 44));obtain⟨g5,hg5⟩:=yM w4.heap.size;have HB5:=qe (show Below w.heap.size w w5 by rw[hw5];exact HB4.out.alloc HB4.out.size _);have HO5:=qe (show w5.ownsRow w.heap.size 44 1 (.slice a4 n c4) n (ys.map qX) by
    rw[hw5];exact qm HO4.out λb hb=>Below.heap_alloc w4 _ b (HO4.out.lt b hb).2)
   have HN5:=qe (show ∀j u,([qX y]:List Value)[j]? =some u->w5.cell? ((⟨g5,0,none⟩:Addr).add j)=some u from λj u hu=>by
    match j,hu with
    | 0,hu=>obtain rfl:=Hr hu;rw[hw5,hg5];simp[Addr.add]
    | j+1,hu=>cases hu)
   have HW5:=qe hw5;have HG5:=qe hg5;have P1:=qe (show n+1<=maxLen by have:=H8.out;have:=HN.out;unfold maxLen;omega);have P2:=qe (show(n+1)*8<=140737488355328 by have:=H8.out;have:=HN.out;omega);have HB5S:=qe HB5.out.size;clear hw5 hg5;go_wp2_with (at_builtin;rw[<- HW5.out,<- HG5.out];refine qW _ rfl _ _ 25 rfl w.heap.size 44 i (.pointer none) 1 8 Tryz.underlying25 HI.out HI2.out HI3.out HI4.out rfl (by decide) _ _ _ rfl HO5.out ⟨g5,0,none⟩ 1 1 [qX y] rfl rfl HN5.out (by simp[Value.oneCell']) P1.out P2.out HB5S.out ?_);intro v6 w6 hown6 hg6 hn6;have HB6:=qe (HB5.out.grown hg6 HB5.out.size (λj hj=>(HO5.out.lt j hj).1));have HO6:=qe (show w6.ownsRow w.heap.size 44 1 v6 (n+1) ((ys ++ [y]).map qX) by simpa using hown6);clear hown6 hg6 hn6;obtain⟨g6,c6,rfl,hc6,hg6l⟩:=HO6.out.form (by omega)
   have hcells:∀k (hk:k<(ys ++ [y]).length),w6.cell? ⟨g6,k,none⟩=some (qX (ys ++ [y])[k]):=λk hk=>by
    have h5:=HO6.out.cellAt k (by rw[Nat.mul_one];rw[gK]at hk;have:=HN.out;simpa[this] using hk);rw[h5,List.getElem?_map,List.getElem?_eq_getElem hk];rfl
   have hcap6:n+1<=c6:=by
    obtain⟨_,_,hv,hle⟩:=qj HO6.out;simp only[gL,true_and]at hv;obtain⟨_,rfl⟩:=hv;exact hle
   have HC6:=qe hcells;have HCP6:=qe hcap6;have HGL6:=qe hg6l;clear hcells hcap6 hg6l hc6;by_cases hn8:n<8
   ·have d1:decide ((8:Int)<((n+1:Nat):Int))=false:=gp (by omega);have d2:decide ((8:Int)<(n:Int)+1)=false:=gp (by omega);have yX:=qe (show xM w6 (.slice (some ⟨g6,0,none⟩) (n+1) c6) ((ys ++ [y]).drop ((ys ++ [y]).length-8)) by
     have hn:=HN.out;have e0:(ys ++ [y]).length=n+1:=by rw[gK,hn];rfl
     rw[e0,show n+1-8=0 by omega,List.drop_zero];refine⟨g6,0,c6,by rw[e0],by rw[e0];exact HCP6.out,HGL6.out,λk hk=>?_⟩;rw[Nat.zero_add];exact HC6.out k hk)
    clear hn8;go_wp2_with fail;go_ret2;exact⟨HB6.out,.inr ⟨HA.out,_,rfl,yX.out,_,_,_,_,rfl,(HO6.out.lt g6 rfl).1⟩⟩
   ·obtain rfl:n=8:=by have:=H8.out;have:=HN.out;omega
    have hcap6:=HCP6.out;have yX:=qe (show xM w6 (.slice (some ⟨g6,1,none⟩) 8 (c6-1)) ((ys ++ [y]).drop ((ys ++ [y]).length-8)) by
     have hn:=HN.out;have e0:(ys ++ [y]).length=9:=by rw[gK,<- hn];rfl
     rw[e0];have e1:((ys ++ [y]).drop (9-8)).length=8:=by rw[He,e0]
     refine⟨g6,1,c6-1,by rw[e1],by rw[e1];have:=HCP6.out;omega,HGL6.out,λk hk=>?_⟩;rw[e1]at hk;rw[HC6.out (1+k) (by rw[e0];omega)];rw[List.getElem_drop])
    clear hn8;go_wp2_with fail;go_ret2;exact⟨HB6.out,.inr ⟨HA.out,_,rfl,yX.out,_,_,_,_,rfl,(HO6.out.lt g6 rfl).1⟩⟩
end Go.Proofs.YtpcmilhjpmlbpaaGreatDoor
namespace Go.Proofs
open Go.Shelf
def Tryz.cloneZ_ren:Go.Shelf.Ren:=⟨fun | 41=>63 | n=>n,fun | 22=>118 | 23=>43 | 4=>4 | n=>n,fun | n=>n⟩
theorem Tryz.cloneZ:Go.Proofs.SlLaysE0.n41 Tryz.prog Tryz.cloneZ_ren:={
 mixed:=by kernel_rfl
 f41:=⟨Tryz.f63.name,by decide,Tryz.func63.trans (congrArg some (by kernel_rfl))⟩
 t4:=Tryz.underlying4
 a4:=Tryz.isAgg4
 z4:=Tryz.sizeOf4
 v4:=Tryz.zeroValue4
 t22:=Tryz.underlying118
 a22:=Tryz.isAgg118
 z22:=Tryz.sizeOf118
 v22:=Tryz.zeroValue118}
end Go.Proofs
namespace Go.Proofs.YtpcmilhjpmlbpaaGreatDoor
open Go.RowKit Go.Shelf nm od
def JQ (w:World)(base h g:Nat)(zs:List Nat):Prop:=base<=h/\g≠h/\∃cap,w.heap[h]? =some (.cells #[.slice (some ⟨g,0,none⟩) zs.length cap] 120 (0,0))/\
 w.ownsRow base 43 1 (.slice (some ⟨g,0,none⟩) zs.length cap) zs.length (zs.map qX)
theorem JQ.at {w:World}{base h g:Nat}{zs:List Nat}(hh:JQ w base h g zs):xE w base h zs:=by
 obtain⟨h1,h2,cap,h3,h4⟩:=hh;exact⟨h1,g,cap,h2,h3,h4⟩
theorem JQ.below {w w':World}{base h g:Nat}{zs:List Nat}(hh:JQ w base h g zs)(hB:Below w.heap.size w w'):JQ w' base h g zs:=by
 obtain⟨h1,h2,cap,h3,h4⟩:=hh;exact⟨h1,h2,cap,(hB.block h (qA h3)).trans h3,ownsRow_below h4 hB⟩
theorem clonePtrs_any (zs:List Nat)(g off cap:Nat)(hl:zs.length<=1000)(w:World)(hc:∀k (hk:k<zs.length),w.cell? ⟨g,off+k,none⟩=some (qX zs[k])):
 Calls Tryz.prog 63 #[.slice (some ⟨g,off,none⟩) zs.length cap] w λe w'=>∃v',e= .returned v'/\Below w.heap.size w w'/\w'.ownsRow w.heap.size 43 1 v' zs.length (zs.map qX)/\v'≠.slice none 0 0:=by
 obtain⟨i0,hi0,hz0,hz1,hz2⟩:=Qo info_zp;refine(AnyE.slices_Clone Tryz.cloneZ i0 _ 1 8 hi0 hz0 hz1 hz2 rfl (by omega) (λw=>by kernel_rfl) g off zs.length cap (zs.map qX) w (by simp) (by unfold maxLen;omega) (by omega) (λj u hu=>?_) (λu hu=>?_)).mono ?_
 ·rw[List.getElem?_map]at hu;obtain⟨x,hx,rfl⟩:=Option.map_eq_some_iff.1 hu;obtain⟨hj,rfl⟩:=List.getElem?_eq_some_iff.1 hx;exact hc j hj
 ·obtain⟨x,_,rfl⟩:=List.mem_map.1 hu;rfl
 ·rintro e w' ⟨v',rfl,h1,h3,h2⟩;exact⟨v',rfl,h2,h1,h3⟩
def AddPost (base h g:Nat)(H:List tr.Zn)(zs:List Nat)(Z:tr.Zn)(z:Nat)(w:World)(e:Ending)(w':World):Prop:=
 (tr.Zi H Z≠0/\e= .returned (.int .i64 (tr.Zi H Z))/\Below w.heap.size w w')\/
  (tr.Zi H Z=0/\e= .returned (.int .i64 0)/\Below base w w'/\(∀b,b<w.heap.size->b≠h->b≠g->w'.heap[b]? =w.heap[b]?)/\∃g',w.heap.size<=g'/\JQ w' base h g' ((zs ++ [z]).drop ((zs ++ [z]).length-8)))
theorem hadd_any (base h g:Nat)(H:List tr.Zn)(zs:List Nat)(h0:0<zs.length)(h8:zs.length<=8)(Z:tr.Zn)(hZ:tr.Ok Z)(tz z:Nat)(w:World)(hb:base<=w.heap.size)(hh:JQ w base h g zs)(hzs:KI w zs H)(hy:jB w tz z Z.ap Z.l):
 Calls Tryz.prog 29 #[.pointer (some ⟨h,0,none⟩),qX z] w λe w'=>AddPost base h g H zs Z z w e w':=by
 obtain⟨n,hn⟩:=yM zs.length;obtain⟨n1,hn1⟩:=yM (n-1);have hlt1:n1<zs.length:=by omega
 have hltH:n1<H.length:=by rw[<- hzs.1];exact hlt1
 obtain⟨hL1,tl,hL3⟩:=hzs.2 n1 hlt1 hltH;have hlast:tr.qR H=H[n1]:=by unfold tr.qR;rw[<- hzs.1,<- hn,<- hn1];exact tr.Qd hltH
 obtain⟨z0,hz0⟩:=yM (zs[n1]);rw[<- hz0]at hL3;obtain⟨L,hL⟩:=yM (H[n1]);rw[<- hL]at hL1 hL3 hlast
 have HZN:=qe (show ∀X,Below w.heap.size w X->Calls Tryz.prog 31 #[.pointer (some ⟨h,0,none⟩)] X λe w'=>e= .returned (qX z0)/\Below X.heap.size X w' from λX hX=>by
  have h1:=Q3 base h zs h0 (by omega) X (hh.at.below hX);have e:zs[zs.length-1]'(by omega)=z0:=by rw[hz0];congr 1;omega
  rw[e]at h1;exact h1)
 have HAPX:=qe (show ∀X,Below w.heap.size w X->Calls Tryz.prog 24 #[qX z] X λe w'=>e= .returned (.string Z.ap)/\Below X.heap.size X w' from λX hX=>by
  obtain⟨_,_,_,_,_,_,_,h2,_⟩:=(hy.kept hX).v.parts;refine(uH z Z.ap _ _ _ X h2).mono ?_;rintro e w' ⟨rfl,rfl⟩;exact⟨rfl,gJ _ _⟩)
 have HAPL:=qe (show ∀X,Below w.heap.size w X->Calls Tryz.prog 24 #[qX z0] X λe w'=>e= .returned (.string L.ap)/\Below X.heap.size X w' from λX hX=>by
  obtain⟨_,_,_,_,_,_,_,h2,_⟩:=(hL3.kept hX).v.parts;refine(uH z0 L.ap _ _ _ X h2).mono ?_;rintro e w' ⟨rfl,rfl⟩;exact⟨rfl,gJ _ _⟩)
 have HL1:=qe hL1;have HL3:=qe hL3;have YJ:=qe hlast;have HN:=qe hn;have HY:=qe hy;have HZ:=qe hZ;have H8:=qe h8;have HH:=qe hh;have HBB:=qe hb;clear hh hzs hL1 hL3 hlast hn hn1 hz0 hL hy hZ hlt1 hltH h0 h8 hb;obtain⟨eq,heq⟩:=yM (qG Z.ap L.ap);have HEQ:=qe heq
 have CE:Hid (∀X,Calls Tryz.prog 62 #[.string Z.ap,.string L.ap] X λe w''=>e= .returned (.bool eq)/\Below X.heap.size X w''):=qe λX=>by
  rw[heq];exact Q5 Z.ap L.ap _
 clear heq
 go_enter Tryz.func29,Tryz.ntmps29
 go_wp2_with fail;refine(HAPX.out w (gJ _ _)).mono ?_;rintro e w1 ⟨rfl,hB1⟩;have HB1:=qe hB1;clear hB1;go_wp2_with fail;refine(HZN.out w1 HB1.out).mono ?_;rintro e w2 ⟨rfl,hB2⟩;have HB2:=qe (gm HB1.out hB2);clear hB2;go_wp2_with fail;refine(HAPL.out w2 HB2.out).mono ?_;rintro e w3 ⟨rfl,hB3⟩;have HB3:=qe (gm HB2.out hB3);clear hB3;go_wp2_with fail;refine(CE.out w3).mono ?_;rintro e w4 ⟨rfl,hB4⟩;have HB4:=qe (gm HB3.out hB4);clear hB4
 cases eq
 ·have HA:=qe (show tr.Zi H Z=5 by unfold tr.Zi;rw[YJ.out,if_pos HEQ.out.symm]);go_wp2_with fail;go_ret;exact .inl ⟨by rw[HA.out];decide,by rw[HA.out];rfl,HB4.out⟩
 ·go_wp2_with fail;refine(J2 tz z Z HZ.out w4 (HY.out.kept HB4.out)).mono ?_;rintro e w5 ⟨rfl,hB5⟩;have HB5:=qe (gm HB4.out hB5);clear hB5;go_wp2_with fail;refine(HZN.out w5 HB5.out).mono ?_;rintro e w6 ⟨rfl,hB6⟩;have HB6:=qe (gm HB5.out hB6);clear hB6;go_wp2_with fail;refine(J2 tl z0 L HL1.out w6 (HL3.out.kept HB6.out)).mono ?_;rintro e w7 ⟨rfl,hB7⟩;have HB7:=qe (gm HB6.out hB7);clear hB7;obtain⟨nb,hnb⟩:=yM (tr.zU (tr.yD Z) (tr.yD L));have CN:=qe (show Calls Tryz.prog 8 #[.int .i64 (tr.yD Z),.int .i64 (tr.yD L)] w7 λe w'=>e= .returned (.bool nb)/\w'=w7 by rw[hnb];exact VE _ _ w7);have HNB:=qe hnb;clear hnb;go_wp2_with fail;refine CN.out.mono ?_;rintro e wN ⟨rfl,hE⟩;obtain rfl:=hE.symm;clear hE
  cases nb
  ·have HA:=qe (show tr.Zi H Z=30 by unfold tr.Zi;rw[YJ.out,if_neg (by rw[<- HEQ.out];simp),if_pos HNB.out.symm]);go_wp2_with fail;go_ret;exact .inl ⟨by rw[HA.out];decide,by rw[HA.out];rfl,HB7.out⟩
  ·have HA:=qe (show tr.Zi H Z=0 by unfold tr.Zi;rw[YJ.out,if_neg (by rw[<- HEQ.out];simp),if_neg (by rw[<- HNB.out];simp)]);obtain⟨hbh,hgh,cap,hhc,hown⟩:=HH.out.below HB7.out;rw[<- HN.out]at hhc hown;have s0:w7.cell? ⟨h,0,none⟩=some (.slice (some ⟨g,0,none⟩) n cap):=by rw[qg hhc];rfl
   obtain⟨i,hi,hz,hz1,hz2⟩:=Qo info_zp;have HI:=qe hi;have HI2:=qe hz;have HI3:=qe hz1;have HI4:=qe hz2;clear hi hz hz1 hz2;obtain⟨w8,hw8⟩:=yM (w7.alloc (.cells #[qX z] 43));obtain⟨g8,hg8⟩:=yM w7.heap.size;have hB78:Below w7.heap.size w7 w8:=by rw[hw8];exact(gJ _ _).alloc (gI _) _
   have HB78:=qe hB78;have HHC:=qe ((hB78.block h (qA hhc)).trans hhc);have HO8:=qe (ownsRow_below hown hB78)
   have HN8:=qe (show ∀j u,([qX z]:List Value)[j]? =some u->w8.cell? ((⟨g8,0,none⟩:Addr).add j)=some u from λj u hu=>by
    match j,hu with
    | 0,hu=>obtain rfl:=Hr hu;rw[hw8,hg8];simp[Addr.add]
    | j+1,hu=>cases hu)
   have HW8:=qe hw8;have HG8:=qe hg8;have P1:=qe (show n+1<=maxLen by have:=H8.out;have:=HN.out;unfold maxLen;omega);have P2:=qe (show(n+1)*8<=140737488355328 by have:=H8.out;have:=HN.out;omega);have HBW8:=qe (gm HB7.out hB78);have HBS:=qe (show base<=w8.heap.size from gQ HBB.out HBW8.out.size);have HGH:=qe hgh;have HBH:=qe hbh;clear hw8 hg8 hB78 hbh hgh hhc hown;go_wp2_with (at_builtin;rw[<- HW8.out,<- HG8.out];refine qW _ rfl _ _ 118 rfl base 43 i (.pointer none) 1 8 Tryz.underlying118 HI.out HI2.out HI3.out HI4.out rfl (by decide) _ _ _ rfl HO8.out ⟨g8,0,none⟩ 1 1 [qX z] rfl rfl HN8.out (by simp[Value.oneCell']) P1.out P2.out HBS.out ?_);intro v9 w9 hown9 hg9 hn9;obtain⟨m,hm⟩:=yM (n+1);have hown9':w9.ownsRow base 43 1 v9 m ((zs ++ [z]).map qX):=by rw[hm];simpa using hown9
   obtain⟨g9,c9,rfl,-,hg9l⟩:=hown9'.form (by omega);have hcap9:m<=c9:=by
    obtain⟨_,_,hv,hle⟩:=qj hown9';simp only[gL,true_and]at hv;obtain⟨_,rfl⟩:=hv;exact hle
   have hhlt:h<w8.heap.size:=qA HHC.out;have hg9h:g9≠h:=by
    rcases hn9 g9 rfl with h1 | h1
    ·simp only[Value.ownBlock,gM]at h1;exact λe=>HGH.out (h1.trans e)
    ·omega
   have hblk9:w9.heap[h]? =some (.cells #[.slice (some ⟨g,0,none⟩) n cap] 120 (0,0)):=(hg9.block h hhlt (by simp only[Value.ownBlock,ne_eq,gM];exact λe=>HGH.out e.symm)).trans HHC.out;have x0:w9.cell? ⟨h,0,none⟩=some (.slice (some ⟨g,0,none⟩) n cap):=by rw[qg hblk9];rfl
   have f0:w9.frozen? ⟨h,0,none⟩=false:=qB hblk9 0;obtain⟨w10,hw10⟩:=yM (w9.setCell ⟨h,0,none⟩ (.slice (some ⟨g9,0,none⟩) m c9));have hblk10:w10.heap[h]? =some (.cells #[.slice (some ⟨g9,0,none⟩) m c9] 120 (0,0)):=by rw[hw10];exact qC hblk9 0 _
   have zz:w10.ownsRow base 43 1 (.slice (some ⟨g9,0,none⟩) m c9) m ((zs ++ [z]).map qX):=by
    rw[hw10]
    exact qm hown9' λb hb=>by
     simp only[Value.ownBlock,gM]at hb;subst hb;exact gP _ _ _ _ hg9h
   have HB89:=qe (show Below base w8 w9 from(gJ base w8).grown hg9 HBS.out (λj hj=>(HO8.out.lt j hj).1));have HB910:=qe (show Below base w w10 by rw[hw10];exact((HBW8.out.mono HBB.out).trans HB89.out).setCell (p:=⟨h,0,none⟩) HBH.out _)
   have HKEEP:=qe (show ∀b,b<w.heap.size->b≠h->b≠g->w10.heap[b]? =w.heap[b]? from λb hbl hbh hbg=>by
    rw[hw10,gP _ _ _ _ hbh];exact(hg9.block b (gN hbl HBW8.out.size) (by simp only[Value.ownBlock,ne_eq,gM];exact hbg)).trans (HBW8.out.block b hbl))
   have HSZ:=qe (show w.heap.size<=w10.heap.size by rw[hw10];have h1:=HBW8.out.size;have h2:=hg9.size;simp;omega);have HW10:=qe hw10;have HO10:=qe zz;have HBK:=qe hblk10;have HM:=qe hm;have HC9:=qe hcap9;clear hw10 zz hm hcap9 hown9 hown9' hg9 hn9 hblk9 hg9l hhlt hg9h hblk10;go_upto_region 8 with fail;rw[<- HW10.out];clear x0 f0 s0;obtain⟨k,hk⟩:=yM (m-8);have hm9:m<=9:=by have:=HM.out;have:=HN.out;have:=H8.out;omega
   have e1:IntKind.i64.wrap ((m:Int)-8)=(m:Int)-8:=Hg _ (by omega);have e2:max (0:Int) ((m:Int)-8)=(k:Int):=by omega
   have e3:(k:Int)<=(m:Int):=by omega
   have e4:k<=m:=by omega
   have e5:m<=c9:=HC9.out;have e6:¬(c9=k):=by have:=HM.out;omega
   have HK:=qe hk;have HRL:=qe (show((zs ++ [z]).drop k).length=m-k by rw[He,gK,<- HN.out,gT,HM.out]);have HKM:=qe (show 0<m-k by have:=HM.out;omega);clear hk hm9;have s0:w10.cell? ⟨h,0,none⟩=some (.slice (some ⟨g9,0,none⟩) m c9):=by rw[qg HBK.out];rfl
   have f0:w10.frozen? ⟨h,0,none⟩=false:=qB HBK.out 0;have zk:=qe (show ∀X:World,Below w10.heap.size w10 X->Below w10.heap.size w10 X/\X.cell? ⟨h,0,none⟩=some (.slice (some ⟨g9,0,none⟩) m c9)/\X.frozen? ⟨h,0,none⟩=false from λX hX=>
    ⟨hX,(hX.cell (p:=⟨h,0,none⟩) (qA HBK.out)).trans s0,qB ((hX.block h (qA HBK.out)).trans HBK.out) 0⟩)
   have HCL:=qe (show ∀X,Below w10.heap.size w10 X->Calls Tryz.prog 63 #[.slice (some ⟨g9,k,none⟩) (m-k) (c9-k)] X λe w'=>∃g' c',e= .returned (.slice (some ⟨g',0,none⟩) (m-k) c')/\Below X.heap.size X w'/\X.heap.size<=g'/\w'.ownsRow X.heap.size 43 1 (.slice (some ⟨g',0,none⟩) (m-k) c') (m-k) (((zs ++ [z]).drop k).map qX) from λX hX=>by
    have ho:=ownsRow_below HO10.out hX
    have h1:=clonePtrs_any ((zs ++ [z]).drop k) g9 k (c9-k) (by have:=HRL.out;have:=HM.out;have:=H8.out;have:=HN.out;omega) X (λj hj=>by
     have hjm:k+j<m:=by have:=HRL.out;omega
     have h5:=ho.cellAt (k+j) (by rw[Nat.mul_one];exact hjm);have hlt:k+j<(zs ++ [z]).length:=by rw[gK,<- HN.out,gT,<- HM.out];exact hjm
     rw[h5,List.getElem?_map,List.getElem?_eq_getElem hlt,List.getElem_drop];rfl)
    rw[HRL.out]at h1;refine h1.mono ?_;rintro e w' ⟨v',rfl,hB,ho',-⟩;obtain⟨g',c',rfl,hg',-⟩:=ho'.form HKM.out;exact⟨g',c',rfl,hB,hg',ho'⟩)
   go_region_with (first
    | (go_at_call 63;(with_reducible refine(HCL.out _ (gJ _ _).drew).mono ?_);rintro e wC ⟨gC,cC,rfl,hbC,hgC,hoC⟩;have hbC2:=Below.trans (B:=w10.heap.size) (a:=w10) (gJ _ _).drew (hbC.mono (gI _));obtain⟨-,kc1,kc2⟩:=zk.out wC hbC2))
   all_goals
    go_wp2_with fail;have hhl:h<w10.heap.size:=qA HBK.out;have hbw:base<=w10.heap.size:=gQ HBB.out HSZ.out;have hgC2:w10.heap.size<=gC:=hgC;have hBC:Below base w wC:=HB910.out.trans (hbC2.mono hbw);have hkk:(zs ++ [z]).length-8=k:=by rw[gK,<- HN.out,gT,<- HM.out,HK.out]
    have hbk:wC.heap[h]? =some (.cells #[.slice (some ⟨g9,0,none⟩) m c9] 120 (0,0)):=(hbC2.block h hhl).trans HBK.out;have hst:=qC hbk 0 (.slice (some ⟨gC,0,none⟩) (m-k) cC);have hoF:(wC.setCell ⟨h,0,none⟩ (.slice (some ⟨gC,0,none⟩) (m-k) cC)).ownsRow base 43 1 (.slice (some ⟨gC,0,none⟩) (m-k) cC) (m-k) (((zs ++ [z]).drop k).map qX):=
     qm (qK hoC hbw) λb hb=>by
      simp only[Value.ownBlock,gM]at hb;rw[<- hb];exact gP _ _ _ _ (show gC≠h by omega)
    have HF:=qe (show AddPost base h g H zs Z z w (.returned (.int .i64 0)) (wC.setCell ⟨h,0,none⟩ (.slice (some ⟨gC,0,none⟩) (m-k) cC)) from by
     refine .inr ⟨HA.out,rfl,hBC.setCell (p:=⟨h,0,none⟩) HBH.out _,λb hb1 hb2 hb3=>?_,gC,gQ HSZ.out hgC2,HBH.out,by omega,cC,?_,?_⟩
     ·rw[gP _ _ _ _ hb2];exact(hbC2.block b (gN hb1 HSZ.out)).trans (HKEEP.out b hb1 hb2 hb3)
     ·rw[hkk,HRL.out];exact hst
     ·rw[hkk,HRL.out];exact hoF)
    clear hhl hbw hgC2 hBC hkk hbk hst hoF;go_ret;exact HF.out
end Go.Proofs.YtpcmilhjpmlbpaaGreatDoor
