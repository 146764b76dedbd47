import Derived.Test.YtpcmilhjpmlbpaaGreatDoorQZoneD
set_option maxRecDepth 100000
set_option maxHeartbeats 8000000
namespace Go.Proofs.YtpcmilhjpmlbpaaGreatDoor
open Go.RowKit Go.Shelf Go.WideMaps nm
theorem qj {w:World}{base:Nat}{e:TypeId}{size:Nat}{v:Value}{n:Nat}{xs:List Value}(h:w.ownsRow base e size v n xs):∃a cap,v= .slice a n cap/\n<=cap:=by
 rcases h.2 with⟨rfl,rfl⟩|⟨g,cap,cur,rfl,_,_,hc,_⟩
 ·exact⟨none,0,rfl,gI _⟩
 ·exact⟨_,cap,rfl,hc⟩
theorem Yi {w:World}{base sb:Nat}{dom:List Key}{F:Key->List Rec}(h:yB w base sb dom F)(hF:∀κ,κ∉dom->F κ= []){κ:Key}(hκ:JP κ):
 ∃v,(∀W,Below w.heap.size w W->(Instr.lookup 114 (.map (some sb)) (Xy κ) false).run Tryz.prog W= .ok v W)/\w.ownsRow base 80 5 v (F κ).length (qw (F κ)):=by
 obtain⟨val,hM,hR,_⟩:=h;refine⟨if κ∈dom then val κ else .slice none 0 0,λW hW=>?_,?_⟩
 ·exact Q0 keyE Tryz.underlying114 Vl (hM.below hW hM.lt) hκ
 ·by_cases hd:κ∈dom
  ·rw[if_pos hd];exact hR κ hd
  ·rw[if_neg hd,hF κ hd];exact gZ w base _ 5
theorem XH (args:Array Value)(w:World):(callFunc 117 args).run Tryz.prog w= .ok (.enter 117 args) w:=by kernel_rfl
theorem XG (args:Array Value)(w:World):(callFunc 119 args).run Tryz.prog w= .ok (.enter 119 args) w:=by kernel_rfl
theorem XF (args:Array Value)(w:World):(callFunc 120 args).run Tryz.prog w= .ok (.enter 120 args) w:=by kernel_rfl
theorem XE (args:Array Value)(w:World):(callFunc 122 args).run Tryz.prog w= .ok (.enter 122 args) w:=by kernel_rfl
theorem XD (args:Array Value)(w:World):(callFunc 123 args).run Tryz.prog w= .ok (.enter 123 args) w:=by kernel_rfl
theorem XC (args:Array Value)(w:World):(callFunc 124 args).run Tryz.prog w= .ok (.enter 124 args) w:=by kernel_rfl
namespace zn
def Zh (r:Rec):Bool:=(decide (r.typ=2) || decide (r.typ=39)) && kM r.owner
def YE (all:ByteArray->Int)(r:Rec):Bool:=decide (r.typ=5) && decide (1<all (qy r.owner))
end zn
theorem rules3_any (k:Int)(r:Rec)(w:World):Calls Tryz.prog 120 #[.int .i64 k,yf r] w λe w'=>e= .returned (.bool (zn.Zh r))/\Below w.heap.size w w':=by
 have hB:=qe ((gJ _ w).alloc (gI _) (.cells (recC r).toArray 80));by_cases h2:r.typ=2
 ·have b1:(r.typ == 2)=true:=by rw[Hz];exact h2
  have hr:zn.Zh r=kM r.owner:=by unfold zn.Zh;rw[gF h2];rfl
  have HR:=qe hr;clear hr h2
  go_enter Tryz.func120,Tryz.ntmps120
  go_wp2_with fail;refine(isStar_any _ _).mono ?_;rintro e w2 ⟨rfl,hB2⟩;go_wp2_with fail;go_ret;exact⟨qI HR.out.symm,hB.out.trans (hB2.mono hB.out.size)⟩
 ·have b1:(r.typ == 2)=false:=by rw[gG];exact h2
  by_cases h3:r.typ=39
  ·have b2:(r.typ == 39)=true:=by rw[Hz];exact h3
   have hr:zn.Zh r=kM r.owner:=by unfold zn.Zh;rw[gp h2,gF h3];rfl
   have HR:=qe hr;clear hr h2 h3
   go_enter Tryz.func120,Tryz.ntmps120
   go_wp2_with fail;refine(isStar_any _ _).mono ?_;rintro e w2 ⟨rfl,hB2⟩;go_wp2_with fail;go_ret;exact⟨qI HR.out.symm,hB.out.trans (hB2.mono hB.out.size)⟩
  ·have b2:(r.typ == 39)=false:=by rw[gG];exact h3
   have hr:zn.Zh r=false:=by unfold zn.Zh;rw[gp h2,gp h3];rfl
   have HR:=qe hr;clear hr h2 h3
   go_enter Tryz.func120,Tryz.ntmps120
   go_wp2_with fail;go_ret;exact⟨qI HR.out.symm,hB.out⟩
theorem rules4_any (k:Int)(r:Rec)(ac m:Nat)(f:ByteArray->Int)(w:World)(hac:w.cell? ⟨ac,0,none⟩=some (.map (some m)))(hm:zt Value.string xC w m f):
 Calls Tryz.prog 122 #[.int .i64 k,yf r,.pointer (some ⟨ac,0,none⟩)] w λe w'=>e= .returned (.bool (zn.YE f r))/\Below w.heap.size w w':=by
 have hB:=qe ((gJ _ w).alloc (gI _) (.cells (recC r).toArray 80));have e0:=qh (q8 w r 80 0 _ rfl);have e1:=qh (q8 w r 80 1 _ rfl);have e2:=qh (qx (.cells (recC r).toArray 80) hac);have hsz:xC (qy r.owner):=by have:=fold_size r.owner;show(qy r.owner).size<=maxLen;unfold maxLen;omega
 have e3:∀p,(Instr.lookup 115 (.map (some m)) (.string (qy r.owner)) false).run Tryz.prog (gw (w.alloc (.cells (recC r).toArray 80)) p)= .ok (.int .i64 (f (qy r.owner))) (gw (w.alloc (.cells (recC r).toArray 80)) p):=λp=>
  ((hm.alloc _).below (qD _ p)).look strE Tryz.underlying115 hsz
 have hr:zn.YE f r=(decide (r.typ=5) && decide (1<f (qy r.owner))):=rfl;have HR:=qe hr;clear hr hac hm hsz;by_cases h5:r.typ=5
 ·have b1:(r.typ == 5)=true:=by rw[Hz];exact h5
  have H5:=qe h5;clear h5
  go_enter Tryz.func122,Tryz.ntmps122
  go_wp2_with fail;refine qp (by kernel_rfl) (by kernel_rfl) ?_
  repeat (refine Hu (λK hK=>?_);go_simp;first | (refine hK _ ?_;clear hK K) | (apply gW;refine⟨λ_=>?_,hK _ ?_⟩;(first | (go_at_call 101;exact qY (kU _ _)));clear hK K))
  refine Hw ?_;intro W hW;have hBW:Below w.heap.size (w.alloc (.cells (recC r).toArray 80)) W:=by obtain⟨p,rfl⟩:=hW;exact(qD _ p).mono hB.out.size
  clear hW;go_wp2_with fail;go_ret;exact⟨qI (by rw[HR.out,gF H5.out,Bool.true_and]),hB.out.trans hBW⟩
 ·have b1:(r.typ == 5)=false:=by rw[gG];exact h5
  have H5:=qe h5;clear h5
  go_enter Tryz.func122,Tryz.ntmps122
  go_wp2_with fail;refine qp (by kernel_rfl) (by kernel_rfl) ?_
  repeat (refine Hu (λK hK=>?_);go_simp;first | (refine hK _ ?_;clear hK K) | (apply gW;refine⟨λ_=>?_,hK _ ?_⟩;(first | (go_at_call 101;exact qY (kU _ _)));clear hK K))
  refine Hw ?_;intro W hW;have hBW:Below w.heap.size (w.alloc (.cells (recC r).toArray 80)) W:=by obtain⟨p,rfl⟩:=hW;exact(qD _ p).mono hB.out.size
  clear hW;go_wp2_with fail;go_ret;exact⟨qI (by rw[HR.out,gp H5.out,Bool.false_and]),hB.out.trans hBW⟩
namespace zn
def JK (qf:ByteArray)(c:Nat)(r:Rec):Bool:=decide (r.typ=6) && (decide (0<c) || !qG r.owner qf)
def xA (low:ByteArray)(F:Key->List Rec)(below:ByteArray->Int)(r:Rec):Bool:=decide (r.typ=39) && (decide (qy r.owner=low) || decide (1<(F (qy r.owner,39)).length) || decide (0<below (qy r.owner)))
def QS (F:Key->List Rec)(r:Rec):Bool:=!decide (r.typ=46) && !decide (r.ttl=((F (yh r)).headD r).ttl)
end zn
theorem YV (s:ByteArray):(qy s).size<=maxLen:=by have:=fold_size s;unfold maxLen;omega
theorem rules5_any (k:Int)(r:Rec)(lc bx bc m z sb base:Nat)(low qf:ByteArray)(dom:List Key)(F:Key->List Rec)(f:ByteArray->Int)(rv tv:Value)(w:World)
 (hlc:w.cell? ⟨lc,0,none⟩=some (.string low)) (hbx:w.cell? ⟨bx,0,none⟩=some (.pointer (some ⟨z,0,none⟩))) (hz:kR w z qf rv (.map (some sb)) tv) (hbc:w.cell? ⟨bc,0,none⟩=some (.map (some m)))
 (hm:zt Value.string xC w m f) (hS:yB w base sb dom F) (hF:∀κ,κ∉dom->F κ= []):
 Calls Tryz.prog 123 #[.int .i64 k,yf r,.pointer (some ⟨lc,0,none⟩),.pointer (some ⟨bx,0,none⟩),.pointer (some ⟨bc,0,none⟩)] w λe w'=>e= .returned (.bool (zn.xA low F f r))/\Below w.heap.size w w':=by
 have hB:=qe ((gJ _ w).alloc (gI _) (.cells (recC r).toArray 80));have hz2:w.cell? ⟨z,2,none⟩=some (.map (some sb)):=by rw[qg hz];rfl
 have l1:=Qe hlc;have l2:=Qe hbx;have l3:=Qe hbc;have l4:=Qe hz2;obtain⟨v,hv,hown⟩:=Yi hS hF (κ:=(qy r.owner,39)) ⟨YV _,rfl⟩;obtain⟨a,cap,rfl,hcap⟩:=qj hown;have hr:zn.xA low F f r=(decide (r.typ=39) && (decide (qy r.owner=low) || decide (1<(F (qy r.owner,39)).length) || decide (0<f (qy r.owner)))):=rfl;obtain⟨n,hn⟩:=yM ((F (qy r.owner,39)).length);rw[<- hn]at hv hown hcap hr;have HR:=qe hr;have H1:=qe hlc;have H2:=qe hbx;have H3:=qe hbc;have H4:=qe hz2;have HV:=qe hv;have HM:=qe hm;clear hr hlc hbx hbc hz2 hv hown hn hm hS hF hz;have hnn:(0:Int)<=(n:Int):=Int.natCast_nonneg _
 go_enter Tryz.func123,Tryz.ntmps123
 go_wp2_with fail;refine(kU _ _).mono ?_;rintro e w2 ⟨rfl,hB2⟩;have hBw:=gm hB.out hB2;have k1:=(hB2.cell (p:=⟨w.heap.size,1,none⟩) (by simp)).trans (q8 w r 80 1 _ rfl);have s1:=(hBw.cell (p:=⟨lc,0,none⟩) l1).trans H1.out;have s2:=(hBw.cell (p:=⟨bx,0,none⟩) l2).trans H2.out;have s3:=(hBw.cell (p:=⟨bc,0,none⟩) l3).trans H3.out;have s4:=(hBw.cell (p:=⟨z,2,none⟩) l4).trans H4.out;have u1:=HV.out w2 hBw;have u2:=(HM.out.below hBw).look strE Tryz.underlying115 (YV r.owner);have HBW:=qe hBw;clear hBw hB2;by_cases h39:r.typ=39
 ·have b1:(r.typ == 39)=true:=by rw[Hz];exact h39
  by_cases hlo:qy r.owner=low
  ·have b2:((qy r.owner).toList == low.toList)=true:=str_eq.2 hlo;have hr2:zn.xA low F f r=true:=by rw[HR.out,gF h39,gF hlo];rfl
   have HR2:=qe hr2;clear hr2 h39 hlo;go_wp2_with fail;go_ret;exact⟨qI HR2.out.symm,HBW.out⟩
  ·have b2:((qy r.owner).toList == low.toList)=false:=str_ne hlo;by_cases h1:1<n
   ·have hr2:zn.xA low F f r=true:=by rw[HR.out,gF h39,gp hlo,gF h1];rfl
    have HR2:=qe hr2;clear hr2 h39 hlo;go_wp2_with fail;go_ret;exact⟨qI HR2.out.symm,HBW.out⟩
   ·have hr2:zn.xA low F f r=decide (0<f (qy r.owner)):=by rw[HR.out,gF h39,gp hlo,gp h1];rfl
    have hd1:decide ((1:Int)<(n:Int))=false:=gp (by omega);have HR2:=qe hr2;have HD1:=qe hd1;clear hr2 h39 hlo hd1;go_wp2_with fail;go_ret;exact⟨qI (by rw[HR2.out,HD1.out,Bool.false_or]),HBW.out⟩
 ·have b1:(r.typ == 39)=false:=by rw[gG];exact h39
  have hr2:zn.xA low F f r=false:=by rw[HR.out,gp h39];rfl
  have HR2:=qe hr2;clear hr2 h39;go_wp2_with fail;go_ret;exact⟨qI HR2.out.symm,HBW.out⟩
theorem rules6_any (k:Int)(r:Rec)(hty:(Lit.int .i64 r.typ).wf=true)(bx z sb base:Nat)(qf:ByteArray)(dom:List Key)(F:Key->List Rec)(rv tv:Value)(w:World)
 (hbx:w.cell? ⟨bx,0,none⟩=some (.pointer (some ⟨z,0,none⟩))) (hz:kR w z qf rv (.map (some sb)) tv)
 (hS:yB w base sb dom F) (hF:∀κ,κ∉dom->F κ= []) (hne:F (zn.yh r)≠[]):
 Calls Tryz.prog 124 #[.int .i64 k,yf r,.pointer (some ⟨bx,0,none⟩)] w λe w'=>e= .returned (.bool (zn.QS F r))/\Below w.heap.size w w':=by
 have hB:=qe ((gJ _ w).alloc (gI _) (.cells (recC r).toArray 80));have hz2:w.cell? ⟨z,2,none⟩=some (.map (some sb)):=by rw[qg hz];rfl
 obtain⟨v,hv,hown⟩:=Yi hS hF (κ:=(qy r.owner,r.typ)) ⟨YV _,hty⟩;have hne':F (qy r.owner,r.typ)≠[]:=hne;obtain⟨r0,rest,hr0⟩:=List.exists_cons_of_ne_nil hne';have hr:zn.QS F r=(!decide (r.typ=46) && !decide (r.ttl=r0.ttl)):=by unfold zn.QS zn.yh;rw[hr0];rfl
 rw[hr0]at hown;obtain⟨g,cap,rfl,hbg,hgl⟩:=hown.form (by simp);have hcell:w.cell? ⟨g,3,none⟩=some (.int .i64 r0.ttl):=by
  have:=hown.cells (g:=g) rfl 3 (.int .i64 r0.ttl) (by simp[qw])
  simpa[Addr.add] using this
 obtain⟨n,hn⟩:=yM ((r0 :: rest).length);rw[<- hn]at hv;have hn1:0<n:=by rw[hn];simp
 have e0:=qh (q8 w r 80 0 _ rfl);have e1:=qh (q8 w r 80 1 _ rfl);have e3:=qh (q8 w r 80 3 _ rfl);have f1:=qh (qx (.cells (recC r).toArray 80) hbx);have f2:=qh (qx (.cells (recC r).toArray 80) hz2);have f3:=qh (qx (.cells (recC r).toArray 80) hcell);have f4:∀p,(Instr.lookup 114 (.map (some sb)) (Xy (qy r.owner,r.typ)) false).run Tryz.prog (gw (w.alloc (.cells (recC r).toArray 80)) p)= .ok (.slice (some ⟨g,0,none⟩) n cap) (gw (w.alloc (.cells (recC r).toArray 80)) p):=λp=>
  hv _ (hB.out.trans ((qD _ p).mono hB.out.size))
 have HR:=qe hr;clear hr hbx hz hS hF hne hne' hz2 hv hr0 hown hcell hbg hn hty;by_cases h46:r.typ=46
 ·have b1:(r.typ == 46)=true:=by rw[Hz];exact h46
  have b2:(r.typ != 46)=false:=by rw[Hy];exact h46
  have hr2:zn.QS F r=false:=by rw[HR.out,gF h46];rfl
  have HR2:=qe hr2;clear h46 hr2
  go_enter Tryz.func124,Tryz.ntmps124
  go_wp2_with fail;refine qp (by kernel_rfl) (by kernel_rfl) ?_
  repeat (with_reducible refine Hu (λK hK=>?_);go_simp;first | (with_reducible refine hK _ ?_;clear hK K) | (apply gW;refine⟨λ_=>?_,hK _ ?_⟩;(first | (go_at_call 101;exact qY (kU _ _)));clear hK K))
  with_reducible refine Hw ?_
  intro W hW;have hBW:Below w.heap.size (w.alloc (.cells (recC r).toArray 80)) W:=by obtain⟨p,rfl⟩:=hW;exact(qD _ p).mono hB.out.size
  clear hW;go_wp2_with fail;go_ret;exact⟨qI HR2.out.symm,hB.out.trans hBW⟩
 ·have b1:(r.typ == 46)=false:=by rw[gG];exact h46
  have b2:(r.typ != 46)=true:=by rw[bne_iff_ne];exact h46
  have hr2:zn.QS F r=(r.ttl != r0.ttl):=by
   rw[HR.out,gp h46];by_cases h:r.ttl=r0.ttl
   ·simp[h]
   ·simp[h]
  have HR2:=qe hr2;clear h46 hr2
  go_enter Tryz.func124,Tryz.ntmps124
  go_wp2_with fail;refine qp (by kernel_rfl) (by kernel_rfl) ?_
  repeat (with_reducible refine Hu (λK hK=>?_);go_simp;first | (with_reducible refine hK _ ?_;clear hK K) | (apply gW;refine⟨λ_=>?_,hK _ ?_⟩;(first | (go_at_call 101;exact qY (kU _ _)));clear hK K))
  with_reducible refine Hw ?_
  intro W hW;have hBW:Below w.heap.size (w.alloc (.cells (recC r).toArray 80)) W:=by obtain⟨p,rfl⟩:=hW;exact(qD _ p).mono hB.out.size
  clear hW;go_wp2_with fail;go_ret;exact⟨qI (by rw[HR2.out]),hB.out.trans hBW⟩
def zn.Vs (r:Rec)(c:Nat):Nat:=if r.typ=6 then c+1 else c
theorem rules2_any (k:Int)(r:Rec)(s4 bx z c:Nat)(hc:c<=2000)(qf:ByteArray)(rv sv tv:Value)(w:World)(hs4:w.heap[s4]? =some (.cells #[.int .i64 (c:Int)] 3 (0,0)))
 (hbx:w.cell? ⟨bx,0,none⟩=some (.pointer (some ⟨z,0,none⟩))) (hz:kR w z qf rv sv tv):
 Calls Tryz.prog 119 #[.int .i64 k,yf r,.pointer (some ⟨s4,0,none⟩),.pointer (some ⟨bx,0,none⟩)] w λe w'=>e= .returned (.bool (zn.JK qf c r))/\w.grownBy w' (some s4)/\
  w'.heap[s4]? =some (.cells #[.int .i64 ((zn.Vs r c:Nat):Int)] 3 (0,0)):=by
 have l4:=qA hs4;have n1:bx≠s4:=λe=>by subst e;rw[qg hs4]at hbx;simp at hbx
 have n2:z≠s4:=UW hz hs4 (by simp);have lz:=qA hz;have lb:=Qe hbx;have c4:w.cell? ⟨s4,0,none⟩=some (.int .i64 (c:Int)):=by rw[qg hs4];rfl
 have f4:w.frozen? ⟨s4,0,none⟩=false:=qB hs4 0;by_cases h6:r.typ=6
 ·have b1:(r.typ == 6)=true:=by rw[Hz];exact h6
  have b2:(r.typ != 6)=false:=by rw[Hy];exact h6
  obtain⟨w3,hw3⟩:=yM ((w.setCell ⟨s4,0,none⟩ (.int .i64 ((c:Int)+1))).alloc (.cells (recC r).toArray 80));have hset:=qC hs4 0 (.int .i64 ((c:Int)+1));have h34:w3.heap[s4]? =some (.cells #[.int .i64 ((c:Int)+1)] 3 (0,0)):=by rw[hw3];exact zi hset _
  have hg3:w.grownBy w3 (some s4):=by rw[hw3];exact(grownBy_setCell w ⟨s4,0,none⟩ _).trans (World.grownBy_alloc _ _ _)
  have hs3:w3.heap.size=w.heap.size+1:=by rw[hw3];simp[World.setCell]
  have hrc:w3.cell? ⟨w.heap.size,0,none⟩=some (.string r.owner):=by
   rw[hw3];have h1:=q8 (w.setCell ⟨s4,0,none⟩ (.int .i64 ((c:Int)+1))) r 80 0 _ rfl;have h2:(w.setCell ⟨s4,0,none⟩ (.int .i64 ((c:Int)+1))).heap.size=w.heap.size:=by simp[World.setCell]
   rw[h2]at h1;exact h1
  have d0:=qh hrc;have d1:=qh (show w3.cell? ⟨s4,0,none⟩=some (.int .i64 ((c:Int)+1)) by rw[qg h34];rfl);have d2:=qh (hg3.cell hbx (by simpa using n1));have hz0:w.cell? ⟨z,0,none⟩=some (.string qf):=by rw[qg hz];rfl
  have d3:=qh (hg3.cell hz0 (by simpa using n2));have hif:((zn.Vs r c:Nat):Int)=(c:Int)+1:=by unfold zn.Vs;rw[if_pos h6];rfl
  have hr:zn.JK qf c r=(decide (0<c) || !qG r.owner qf):=by unfold zn.JK;rw[gF h6,Bool.true_and]
  have HR:=qe hr;have HG:=qe hg3;have H34:=qe h34;have HW:=qe hw3;have HIF:=qe hif;have HS3:=qe hs3;clear hr hg3 h34 hw3 hset hrc hz0 hbx hz h6 hif hs4 hs3
  go_enter Tryz.func119,Tryz.ntmps119
  go_wp2_with fail;rw[<- HW.out];clear c4 f4;by_cases h0:0<c
  ·have hgt:decide ((1:Int)<(c:Int)+1)=true:=gF (by omega);have hr2:zn.JK qf c r=true:=by rw[HR.out,gF h0];rfl
   have HR2:=qe hr2;clear hr2 h0;refine qp (by kernel_rfl) (by kernel_rfl) ?_
   repeat (with_reducible refine Hu (λK hK=>?_);go_simp;first | (with_reducible refine hK _ ?_;clear hK K) | (apply gW;refine⟨λ_=>?_,hK _ ?_⟩;(first | (go_at_call 62;exact qY (Q5 _ _ _)));clear hK K))
   with_reducible refine Hw ?_
   intro W hW;have hBW:Below w3.heap.size w3 W:=by obtain⟨p,rfl⟩:=hW;exact qD _ p
   clear hW;go_wp2_with fail;go_ret;exact⟨qI HR2.out.symm,HG.out.trans ⟨hBW.os,hBW.tape,hBW.output,hBW.size,λj hj _=>hBW.block j hj⟩,by rw[HIF.out];exact(hBW.block s4 (qA H34.out)).trans H34.out⟩
  ·have hgt:decide ((1:Int)<(c:Int)+1)=false:=gp (by omega);have hr2:zn.JK qf c r=(!qG r.owner qf):=by rw[HR.out,gp h0];rfl
   have HR2:=qe hr2;clear hr2 h0;refine qp (by kernel_rfl) (by kernel_rfl) ?_
   repeat (with_reducible refine Hu (λK hK=>?_);go_simp;first | (with_reducible refine hK _ ?_;clear hK K) | (apply gW;refine⟨λ_=>?_,hK _ ?_⟩;(first | (go_at_call 62;exact qY (Q5 _ _ _)));clear hK K))
   with_reducible refine Hw ?_
   intro W hW;have hBW:Below w3.heap.size w3 W:=by obtain⟨p,rfl⟩:=hW;exact qD _ p
   clear hW;go_wp2_with fail;go_ret;exact⟨qI HR2.out.symm,HG.out.trans ⟨hBW.os,hBW.tape,hBW.output,hBW.size,λj hj _=>hBW.block j hj⟩,by rw[HIF.out];exact(hBW.block s4 (qA H34.out)).trans H34.out⟩
 ·have b1:(r.typ == 6)=false:=by rw[gG];exact h6
  have b2:(r.typ != 6)=true:=by rw[bne_iff_ne];exact h6
  have hr:zn.JK qf c r=false:=by unfold zn.JK;rw[gp h6];rfl
  have hg:w.grownBy (w.alloc (.cells (recC r).toArray 80)) (some s4):=World.grownBy_alloc _ _ _;have hk:(w.alloc (.cells (recC r).toArray 80)).heap[s4]? =some (.cells #[.int .i64 (c:Int)] 3 (0,0)):=zi hs4 _;have hif:((zn.Vs r c:Nat):Int)=(c:Int):=by unfold zn.Vs;rw[if_neg h6]
  have HR:=qe hr;have HG:=qe hg;have HK:=qe hk;have HIF:=qe hif;clear hr hg hk h6 hif hs4 hz hbx
  go_enter Tryz.func119,Tryz.ntmps119
  go_wp2_with fail;go_ret;exact⟨qI HR.out.symm,HG.out,by rw[HIF.out];exact HK.out⟩
end Go.Proofs.YtpcmilhjpmlbpaaGreatDoor
namespace Go.Proofs.YtpcmilhjpmlbpaaGreatDoor
open Go.RowKit Go.Shelf nm
namespace nm
def lbs (ls:List (List UInt8)):List ByteArray:=ls.map λl=>⟨l.toArray⟩
theorem ji (ls:List (List UInt8)):(lbs ls).length=ls.length:=by unfold lbs;simp
def xP (s:ByteArray):Option (List (List UInt8)):=jl (s.size+1) s.data.toList
theorem V9 (s:ByteArray):rows s=if s.size<=255 then xP s else none:=rfl
theorem head_of {s:ByteArray}(h:0<s.size):s.data.toList=s[0] :: s.data.toList.drop 1:=by
 have h1:0<s.data.toList.length:=by simpa using h
 have h2:=Hf h1;rw[List.drop_zero]at h2;exact h2
theorem split_empty {s:ByteArray}(h:s.size=0):xP s=none:=by
 have h1:s.data.toList= []:=Hm (by simpa using h);unfold xP;rw[h1];rfl
theorem split_end {s:ByteArray}(h:0<s.size)(hz:s[0].toNat=0):xP s=if s.size=1 then some [] else none:=by
 have h1:=head_of h;unfold xP;rw[h1,jl,if_pos hz];by_cases e:s.size=1
 ·rw[if_pos e,if_pos];exact List.drop_eq_nil_of_le (by simpa using (show s.size<=1 by omega))
 ·rw[if_neg e,if_neg];intro hd;have:=List.drop_eq_nil_iff.1 hd;have h2:s.data.toList.length=s.size:=by simp
  omega
theorem split_bad {s:ByteArray}(h:0<s.size)(hz:s[0].toNat≠0)(hb:63<s[0].toNat\/s.size<1+s[0].toNat):xP s=none:=by
 have h1:=head_of h;have h2:s.data.toList.length=s.size:=by simp
 unfold xP;rw[h1,jl,if_neg hz,if_pos];rw[He];omega
theorem split_next {s:ByteArray}(h:0<s.size)(hz:s[0].toNat≠0)(h63:s[0].toNat<=63)(hb:1+s[0].toNat<=s.size):
 xP s=(xP (s.extract (1+s[0].toNat) s.size)).map ((s.extract 1 (1+s[0].toNat)).data.toList :: ·):=by
 have h1:=head_of h;have h2:s.data.toList.length=s.size:=by simp
 have e1:(s.extract 1 (1+s[0].toNat)).data.toList=(s.data.toList.drop 1).take s[0].toNat:=by
  rw[zW];congr 1;omega
 have e2:(s.extract (1+s[0].toNat) s.size).data.toList=(s.data.toList.drop 1).drop s[0].toNat:=by
  rw[zW,List.drop_drop];exact List.take_of_length_le (by rw[He,h2];omega)
 have e3:(s.extract (1+s[0].toNat) s.size).size=s.size-(1+s[0].toNat):=by
  have:=congrArg List.length e2;simp only[He,h2]at this;rw[Array.length_toList]at this;rw[show(s.extract (1+s[0].toNat) s.size).size=(s.extract (1+s[0].toNat) s.size).data.size from rfl,this];omega
 unfold xP
 conv=>lhs;rw[h1]
 rw[jl,if_neg hz,if_neg (by rw[He];omega),e1,e2,e3]
 congr 1
 refine splitL_fuel ?_ ?_
 ·rw[He,He];omega
 ·rw[He,He];omega
def Va (s:ByteArray)(done:List (List UInt8))(rest:ByteArray):Prop:=
 xP s=(xP rest).map (done ++ ·)/\rest.size+done.length<=s.size
theorem YN {s rest:ByteArray}{done:List (List UInt8)}(h:Va s done rest)(hn:xP rest=none):rows s=none:=by
 rw[V9,h.1,hn]
 split <;> rfl
theorem splitAt_end {s rest:ByteArray}{done:List (List UInt8)}(h:Va s done rest)(h0:0<rest.size)(hz:rest[0].toNat=0):rows s=if rest.size=1/\s.size<=255 then some done else none:=by
 rw[V9,h.1,split_end h0 hz];by_cases h1:s.size<=255
 ·rw[if_pos h1];by_cases h2:rest.size=1
  ·rw[if_pos h2,if_pos ⟨h2,h1⟩];simp
  ·rw[if_neg h2,if_neg (λe=>h2 e.1)];rfl
 ·rw[if_neg h1,if_neg (λe=>h1 e.2)]
theorem splitAt_next {s rest:ByteArray}{done:List (List UInt8)}(h:Va s done rest)(h0:0<rest.size)(hz:rest[0].toNat≠0)(h63:rest[0].toNat<=63)(hb:1+rest[0].toNat<=rest.size):
 Va s (done ++ [(rest.extract 1 (1+rest[0].toNat)).data.toList]) (rest.extract (1+rest[0].toNat) rest.size):=by
 have e1:(rest.extract (1+rest[0].toNat) rest.size).size=rest.size-(1+rest[0].toNat):=by rw[Hq];omega
 refine⟨?_,?_⟩
 ·rw[h.1,split_next h0 hz h63 hb,Option.map_map]
  congr 1
  funext x
  simp
 ·have:=h.2;rw[e1,gK];simp;omega
end nm
def RSplit (s:ByteArray)(w:World)(e:Ending)(w':World):Prop:=
 Below w.heap.size w w'/\∃v,e= .returned (.tuple #[v,.bool (rows s).isSome])/\∀ls,rows s=some ls->w'.ownsRow w.heap.size 9 1 v ls.length ((lbs ls).map .string)
theorem yE (s:ByteArray)(hs:s.size<=1099511627776)(w:World):Calls Tryz.prog 86 #[.string s] w λe w'=>RSplit s w e w':=by
 obtain⟨i0,hi0,hz0,hz1,hz2⟩:=info_parts Jw;have HI:=qe hi0;have HZ:=qe hz0;have HZ1:=qe hz1;have HZ2:=qe hz2;clear hi0 hz0 hz1 hz2
 go_enter Tryz.func86,Tryz.ntmps86
 go_wp2_with fail
 go_loopw [5,4,6] (λrv ov _ wr=>∃(done:List (List UInt8)) (rest:ByteArray),rv= .string rest/\Va s done rest/\wr.ownsRow w.heap.size 9 1 ov done.length ((lbs done).map .string)/\Below w.heap.size w wr)
  (λrv _ _ _=>match rv with | .string r=>r.size | _=>0)
 case atStart=>exact⟨[],s,rfl,⟨by simp,by simp⟩,gZ _ _ _ _,gJ _ _⟩
 case round=>
  obtain⟨done,rest,rfl,hA,hown,hB⟩:=hrel;obtain⟨a,cap,rfl,hcap⟩:=qj hown;have hsd:=hA.2;have hsr:=hB.size;have HA:=qe hA;have HOWN:=qe hown;have HB:=qe hB;clear hA hown hB;by_cases h0:rest.size=0
  ·have b1:=yR h0;have hn:=YN HA.out (split_empty h0);have HN:=qe hn;clear hn;go_wp2_with fail;go_ret2;exact⟨HB.out,_,by rw[HN.out];rfl,λls h=>by rw[HN.out]at h;cases h⟩
  ·have b1:=jq h0;have h0':0<rest.size:=by omega
   have Xz:(rest[0].toNat:Int)<256:=by have:=UInt8.toNat_lt rest[0];omega
   obtain⟨c,hc⟩:=yM (rest[0].toNat);have HC:=qe hc;by_cases hz:c=0
   ·have b2:((rest[0].toNat:Int) == 0)=true:=by rw[Hz];omega
    have hend:=splitAt_end HA.out h0' (by omega);have HE:=qe hend;clear hend hc hz;by_cases h1:rest.size=1
    ·have b3:((rest.size:Int) == 1)=true:=by rw[Hz];omega
     by_cases h255:s.size<=255
     ·have h255':(s.size:Int)<=255:=by omega
      have hr:rows s=some done:=by rw[HE.out,if_pos ⟨h1,h255⟩]
      have HR:=qe hr;clear hr;go_wp2_with fail;go_ret2;exact⟨HB.out,_,by rw[HR.out];rfl,λls h=>by rw[HR.out]at h;cases h;exact HOWN.out⟩
     ·have h255':(255:Int)<(s.size:Int):=by omega
      have hr:rows s=none:=by rw[HE.out,if_neg (λe=>h255 e.2)]
      have HR:=qe hr;clear hr;go_wp2_with fail;go_ret2;refine⟨HB.out,.slice a done.length cap,?_,λls h=>by rw[HR.out]at h;cases h⟩;rw[HR.out];show Ending.returned (.tuple #[.slice a done.length cap,.bool (decide ((s.size:Int)<=255))])=_;rw[gp (by omega)];rfl
    ·have b3:((rest.size:Int) == 1)=false:=by rw[gG];omega
     have hr:rows s=none:=by rw[HE.out,if_neg (λe=>h1 e.1)]
     have HR:=qe hr;clear hr;go_wp2_with fail;go_ret2;exact⟨HB.out,_,by rw[HR.out];rfl,λls h=>by rw[HR.out]at h;cases h⟩
   ·have b2:((rest[0].toNat:Int) == 0)=false:=by rw[gG];omega
    by_cases h63:63<c
    ·have q1:63<(rest[0].toNat:Int):=by omega
     have hn:=YN HA.out (split_bad h0' (by omega) (.inl (by omega)));have HN:=qe hn;clear hn hc;go_wp2_with fail;go_ret2;exact⟨HB.out,_,by rw[HN.out];rfl,λls h=>by rw[HN.out]at h;cases h⟩
    ·have q1:(rest[0].toNat:Int)<=63:=by omega
     by_cases hl:rest.size<1+c
     ·have q2:(rest.size:Int)<1+(rest[0].toNat:Int):=by omega
      have hn:=YN HA.out (split_bad h0' (by omega) (.inr (by omega)));have HN:=qe hn;clear hn hc;go_wp2_with fail;go_ret2;exact⟨HB.out,_,by rw[HN.out];rfl,λls h=>by rw[HN.out]at h;cases h⟩
     ·have q2:1+(rest[0].toNat:Int)<=(rest.size:Int):=by omega
      have hA2:=splitAt_next HA.out h0' (by omega) (by omega) (by omega);have HA2:=qe hA2;clear hA2;have hB3:=HB.out.alloc (by omega) (.cells #[.string (rest.extract 1 (1+rest[0].toNat))] 9);have HOWN3:=qe (qm HOWN.out λb hb=>Below.heap_alloc wr (.cells #[.string (rest.extract 1 (1+rest[0].toNat))] 9) b (HOWN.out.lt b hb).2);have p1:done.length+1<=maxLen:=by unfold maxLen;omega
      have p2:(done.length+1)*16<=140737488355328:=by omega
      have p3:w.heap.size<=(wr.alloc (.cells #[.string (rest.extract 1 (1+rest[0].toNat))] 9)).heap.size:=by simp;omega
      have P1:=qe p1;have P2:=qe p2;have P3:=qe p3;have HB3:=qe hB3;clear p1 p2 p3 hc hB3;have hcs:((1:Int)+(rest[0].toNat:Int)).toNat=1+rest[0].toNat:=by omega
      go_wp2_with (at_builtin;refine wpList_append_own _ rfl _ _ 148 rfl w.heap.size 9 i0 (.string ByteArray.empty) 1 16 Tryz.underlying148 HI.out HZ.out HZ1.out HZ2.out rfl (by decide) _ _ _ rfl HOWN3.out ⟨wr.heap.size,0,none⟩ 1 1 [.string (rest.extract 1 (1+rest[0].toNat))] rfl rfl (cell_one_new _ _ _) (by simp[Value.oneCell']) P1.out P2.out P3.out ?_);intro v' w10 zz jg hnn;have vZ:=HB3.out.grown jg P3.out (λj hj=>(HOWN3.out.lt j hj).1);have zV:=qe zz;have yt:=qe vZ;clear zz vZ jg hnn;go_wp2_with fail
      go_roundw
      case rel=>
       refine⟨_,_,rfl,HA2.out,?_,yt.out⟩;have:=zV.out;rw[gK];unfold lbs at this ⊢;rw[List.map_append,List.map_append];exact this
      case measure=>
       simp only[Hq];omega
theorem zu (s:ByteArray)(hs:s.size<=1099511627776)(w:World):Calls Tryz.prog 49 #[.string s] w λe w'=>e= .returned (.bool (qo s))/\Below w.heap.size w w':=by
 go_enter Tryz.func49,Tryz.ntmps49
 go_wp2_with fail;refine(yE s hs _).mono ?_;rintro e w2 ⟨hB,v,rfl,_⟩;go_wp2_with fail;go_ret;exact⟨by rw[jA];rfl,hB⟩
theorem rcount_any (s:ByteArray)(hs:s.size<=1099511627776)(w:World):Calls Tryz.prog 173 #[.string s] w λe w'=>e= .returned (.int .i64 (qM s))/\Below w.heap.size w w':=by
 cases hr:rows s with
 | none=>
   have hc:qM s= -1:=by rw[Qx,hr]
   have HC:=qe hc;have HR:=qe hr;clear hc hr
   go_enter Tryz.func173,Tryz.ntmps173
   go_wp2_with fail;refine(yE s hs _).mono ?_;rintro e w2 ⟨hB,v,rfl,_⟩;have HB:=qe hB;clear hB;rw[HR.out];go_wp2_with fail;go_ret;exact⟨by rw[HC.out];rfl,HB.out⟩
 | some ls=>
   have hc:qM s=ls.length:=Qw hr;have HC:=qe hc;have HR:=qe hr;clear hc hr
   go_enter Tryz.func173,Tryz.ntmps173
   go_wp2_with fail;refine(yE s hs _).mono ?_;rintro e w2 ⟨hB,v,rfl,hv⟩;obtain⟨a,cap,rfl,_⟩:=qj (hv ls HR.out);have HB:=qe hB;clear hB hv;rw[HR.out];go_wp2_with fail;go_ret;exact⟨by rw[HC.out];rfl,HB.out⟩
namespace nm
def ZG (ls:List (List UInt8)):List UInt8:=ls.flatMap λl=>UInt8.ofNat l.length :: l
theorem VA:∀ls:List (List UInt8),zX ls=ZG ls ++ [0]
 | []=>rfl
 | l :: ls=>by
   rw[zX,VA ls];unfold ZG;rw[List.flatMap_cons];simp
theorem headL_take {ls:List (List UInt8)}{k:Nat}(h:k<ls.length):ZG (ls.take (k+1))=ZG (ls.take k) ++ (UInt8.ofNat ls[k].length :: ls[k]):=by
 rw[gV h];unfold ZG;rw[List.flatMap_append];simp
theorem headL_le (ls:List (List UInt8))(k:Nat):(ZG (ls.take k)).length<=(zX ls).length:=by
 have h:ZG ls=ZG (ls.take k) ++ ZG (ls.drop k):=by
  unfold ZG;rw[<- List.flatMap_append,List.take_append_drop]
 rw[VA,h];simp
end nm
def ZV (w:World)(v:Value)(ss:List ByteArray):Prop:=
 ∃a cap,v= .slice a ss.length cap/\∀k (h:k<ss.length),∃b off,a=some ⟨b,off,none⟩/\b<w.heap.size/\w.cell? ⟨b,off+k,none⟩=some (.string ss[k])
theorem ZV.below {w w':World}{v:Value}{ss:List ByteArray}(h:ZV w v ss)(hb:Below w.heap.size w w'):ZV w' v ss:=by
 obtain⟨a,cap,rfl,h⟩:=h;refine⟨a,cap,rfl,λk hk=>?_⟩;obtain⟨b,off,rfl,hl,hc⟩:=h k hk;exact⟨b,off,rfl,gN hl hb.size,(hb.cell (p:=⟨b,off+k,none⟩) hl).trans hc⟩
theorem QZ {w:World}{base:Nat}{v:Value}{ss:List ByteArray}(h:w.ownsRow base 9 1 v ss.length (ss.map .string)):ZV w v ss:=by
 obtain⟨a,cap,rfl,_⟩:=qj h;refine⟨a,cap,rfl,λk hk=>?_⟩;obtain⟨g,cap',hv,_,hg⟩:=h.form (by omega);simp only[gL,true_and]at hv;obtain⟨rfl,rfl⟩:=hv;refine⟨g,0,rfl,hg,?_⟩;have:=Qb h k (by rw[List.length_map];exact hk);rw[List.getElem_map]at this;rw[Nat.zero_add];exact this
theorem Uz (ls:List (List UInt8))(hl:∀l∈ls,l.length<=255)(hsz:(zX ls).length<=1099511627776)(v:Value)(w:World)(hv:ZV w v (lbs ls)):
 Calls Tryz.prog 147 #[v] w λe w'=>e= .returned (.string (nameOf ls))/\Below w.heap.size w w':=by
 obtain⟨a,cap,rfl,hc⟩:=hv;rw[ji];have hn:=ku ls;have HCC:=qe hc;have HL:=qe hl;clear hc hl
 go_enter Tryz.func147,Tryz.ntmps147
 go_wp2_with fail
 go_loopw [8,3,5] (λiv sv _ wr=>∃k:Nat,k<=ls.length/\iv= .int .i64 (k:Int)/\sv= .string ⟨(ZG (ls.take k)).toArray⟩/\Below w.heap.size w wr) (λiv _ _ _=>ls.length-(intOf iv).toNat)
 case atStart=>exact⟨0,gU _,rfl,rfl,gJ _ _⟩
 case round=>
  obtain⟨k,hk,rfl,rfl,hB⟩:=hrel;have hle:=headL_le ls k;have hsr:=hB.size;obtain⟨hs,hhs⟩:=yM (⟨(ZG (ls.take k)).toArray⟩:ByteArray);have hsz2:hs.size=(ZG (ls.take k)).length:=by rw[hhs];simp[ByteArray.size]
  rw[<- hhs];have HB:=qe hB;have HHS:=qe hhs;clear hB hhs;by_cases hlt:k<ls.length
  ·obtain⟨b,off,rfl,hb,c0⟩:=HCC.out k (by rw[ji];exact hlt);have c0:=(HB.out.cell (p:=⟨b,off+k,none⟩) hb).trans c0;have hx:(lbs ls)[k]'(by rw[ji];exact hlt)=(⟨ls[k].toArray⟩:ByteArray):=by unfold lbs;simp
   rw[hx]at c0;obtain⟨x,hxx⟩:=yM (⟨ls[k].toArray⟩:ByteArray);rw[<- hxx]at c0;have hxs:x.size=ls[k].length:=by rw[hxx];simp[ByteArray.size]
   have hx255:x.size<=255:=by rw[hxs];exact HL.out _ (Ht hlt)
   have HXX:=qe hxx;have HXS:=qe hxs;clear hx hxx hxs;have hcv:(convert 122 9 (.slice (some ⟨wr.heap.size,0,none⟩) 1 1)).run Tryz.prog (wr.alloc (.cells #[.int .u8 (x.size:Int)] 5))= .ok (.string ⟨[UInt8.ofNat x.size].toArray⟩) (wr.alloc (.cells #[.int .u8 (x.size:Int)] 5)):=by
    refine run_convert_bytes_back (P:=Tryz.prog) _ 122 9 5 ⟨wr.heap.size,0,none⟩ 1 [UInt8.ofNat x.size] Tryz.underlying122 Tryz.underlying5 Tryz.underlying9 (λj hj=>?_);obtain rfl:j=0:=by simpa using hj
    have h8:((UInt8.ofNat x.size).toNat:Int)=(x.size:Int):=by rw[UInt8.toNat_ofNat'];omega
    have:=ve wr [.int .u8 (x.size:Int)] 5 0 _ rfl;simp only[Ho,h8];exact this
   have hbig:hs.size+(1+x.size)<=1099511627776:=by
    have h1:=headL_le ls (k+1);rw[headL_take hlt,gK,Ha]at h1;rw[hsz2,HXS.out];omega
   have hxb:(⟨[UInt8.ofNat x.size].toArray⟩:ByteArray).size=1:=rfl;have HB3:=qe (HB.out.alloc hsr (.cells #[.int .u8 (x.size:Int)] 5));have HHB:=qe hbig;clear hbig;go_wp2_with fail
   go_roundw
   case rel=>
    refine⟨k+1,by omega,by go_num,?_,HB3.out⟩;refine congrArg Value.string (YX ?_);show _=ZG (ls.take (k+1));rw[headL_take hlt,ByteArray.data_append,Array.toList_append,ByteArray.data_append,Array.toList_append,HHS.out,HXX.out];rfl
   case measure=>simp[intOf];omega
  ·have hke:k=ls.length:=by omega
   subst hke;have hz1:(⟨#[0]⟩:ByteArray).size=1:=rfl;go_wp2_with fail;go_ret;refine⟨?_,HB.out⟩;rw[HHS.out,List.take_length];refine congrArg (λs=>Ending.returned (.string s)) (YX ?_);show _=zX ls;rw[VA,ByteArray.data_append,Array.toList_append]
end Go.Proofs.YtpcmilhjpmlbpaaGreatDoor
