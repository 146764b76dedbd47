import Derived.Test.YtpcmilhjpmlbpaaGreatDoorQNameIt
import Derived.Laws.IdiomStrings
import Derived.Deep.DeepCutAuto
set_option maxRecDepth 100000
set_option maxHeartbeats 2000000
namespace Go.Proofs.YtpcmilhjpmlbpaaGreatDoor
open Go.RowKit Go.Shelf
attribute [local go_sem] Oper.semAt_some
def okV (b:Bool):Value:=.int .i64 (if b then 0 else 1)
theorem check_in (F:Fence)(n:Nat)(h4:F.fn 47)(h6:F.fn 84)(h8:F.fn 135)(hro:F.round=none)(hn:3<=n)(s:ByteArray)(hs:s.size<=255)(w:World):
 CallsIn F n Tryz.prog 47 #[.string s] w λe W'=>e= .returned (okV (nm.qo s))/\Below w.heap.size w W':=by
 have h1:1<=n:=by omega
 have hd:decide (255<(s.size:Int))=false:=gp (by omega);refine callsIn_of_wp_marks Tryz.func47 rfl h4 ?_ hro;simp only[Tryz.ntmps47,List.size_toArray,Ha,List.length_nil,Nat.reduceAdd,Nat.reduceSub,Array.replicate_succ,Array.replicate_zero,List.push_toArray,List.append_toArray,List.nil_append,List.cons_append]
 gi_wp2_with (gi_at_call 84;refine(J8 F (n-1) h6 hro _ _).mono ?_;rintro e w' ⟨rfl,rfl⟩)
 have c0:=zC w (.string s) 9;have c1:=zC (w.alloc (.cells #[.string s] 9)) (.int .i64 0) 47;have c2:=zC ((w.alloc (.cells #[.string s] 9)).alloc (.cells #[.int .i64 0] 47)) (.string s) 9;simp only[World.size_alloc]at c1 c2;have hB0:Below w.heap.size w (((w.alloc (.cells #[.string s] 9)).alloc (.cells #[.int .i64 0] 47)).alloc (.cells #[.string s] 9)):=(((gJ _ w).alloc (gI _) _).alloc (by simp) _).alloc (by simp;omega) _
 refine wpIn_rangeFunc_ownF hro h1 (gf:=135) (lb:=#[.pointer (some ⟨w.heap.size+1+1,0,none⟩)]) rfl h8 (enters_of Tryz.func135 (by kernel_rfl) rfl)
  (UQ F (n-1) h8 hro (by omega) (w.heap.size+1+1) s (by omega) _ (by simp) c2.1) uD (uE (by simp)) (gJ _ _) (λ_=>rfl)
  (λpre W=>((∀p∈pre,nm.ends s p=false)/\W.cell? ⟨w.heap.size,0,none⟩=some (.string s)/\W.cell? ⟨w.heap.size+1,0,none⟩=some (.int .i64 0)/\W.frozen? ⟨w.heap.size+1,0,none⟩=false)/\Below w.heap.size w W)
  (λc pre W=>(c= .ret/\(∃p∈pre,nm.ends s p=true)/\W.cell? ⟨w.heap.size+1,0,none⟩=some (.int .i64 0))/\Below w.heap.size w W)
  (OwnFrom.and (Own.from (λs A B row hs hg hr=>⟨hs.1,cell_kept hs.2.1 hg hr,cell_kept hs.2.2.1 hg hr,(frozen_kept hs.2.2.1 hg hr).trans hs.2.2.2⟩) _) (ownFrom_below (gI _) (by simp;omega)))
  (λc=>OwnFrom.and (Own.from (λs A B row hs hg hr=>⟨hs.1,hs.2.1,cell_kept hs.2.2 hg hr⟩) _) (ownFrom_below (gI _) (by simp;omega)))
  ⟨⟨by simp,qx _ (qx _ c0.1),qx _ c1.1,kE _ c1.1 c1.2⟩,hB0⟩
  (λx=>{ tmps:=#[.string s,.pointer (some ⟨w.heap.size,0,none⟩),.pointer (some ⟨w.heap.size+1,0,none⟩),.int .i64 (x.1:Int),.string x.2,.string s,.int .i64 s.size,.bool false,.string s,.func (.func 135) #[] #[.pointer (some ⟨w.heap.size+1+1,0,none⟩)],.int .i64 (x.1:Int),.string x.2,undef,undef,undef,undef,undef,undef,undef,undef,undef],defers:=[]}) ?assign ?body ?done ?stop
 case assign=>
  intro l x W K hK
  dsimp only[markV]
  gi_wp2
  exact hK
 case body=>
  rintro l pre x W ⟨⟨hp,hcs,hcr,hfr⟩,hB⟩ _;have HP:=qe hp;have HB:=qe hB;clear hp hB;by_cases hz:x.2.size=0
  ·have b0:=yR hz;by_cases he:x.1+1=s.size
   ·have b1:((x.1:Int) == (s.size:Int)-1)=true:=by rw[Hz];omega
    have hend:nm.ends s x=true:=by simp[nm.ends,hz,he]
    have HE:=qe hend;clear hend hz he
    gi_wp2
    exact⟨KeepsOthers.setCell _ _ _,⟨rfl,⟨x,by simp,HE.out⟩,World.cell?_setCell_same' _ _ _ (by rw[hcr];rfl)⟩,HB.out.setCell (p:=⟨w.heap.size+1,0,none⟩) (by simp) _⟩
   ·have b1:((x.1:Int) == (s.size:Int)-1)=false:=by rw[gG];omega
    have hend:nm.ends s x=false:=by simp[nm.ends,he]
    have HE:=qe hend;clear hend hz he
    gi_wp2
    exact⟨KeepsOthers.refl _,ze.refl _ _,⟨λp hp'=>(List.mem_append.1 hp').elim (HP.out p) (λe=>by simp at e;subst e;exact HE.out),hcs,hcr,hfr⟩,HB.out⟩
  ·have b0:=jq hz;have hend:nm.ends s x=false:=by simp[nm.ends,hz]
   have HE:=qe hend;clear hend hz
   gi_wp2
   exact⟨KeepsOthers.refl _,ze.refl _ _,⟨λp hp'=>(List.mem_append.1 hp').elim (HP.out p) (λe=>by simp at e;subst e;exact HE.out),hcs,hcr,hfr⟩,HB.out⟩
 case done=>
  rintro D ys W hD rfl ⟨⟨hne,_,hcr,hfr⟩,hB⟩ hK
  gi_wp2
  have hK':=(KeepsOthers.setCell W ⟨w.heap.size+1,0,none⟩ (.int .i64 1)).same D _ hK rfl;refine⟨by simp,.inl ⟨_,_,rfl,run_takeDeferred hK',?_⟩⟩;have hc5:=cell_kept (World.cell?_setCell_same' W ⟨w.heap.size+1,0,none⟩ (.int .i64 1) (by rw[hcr];rfl)) (grownBy_putObj' _ D (.deferred none)) (λr e=>by cases e;exact⟨_,hK',rfl⟩);have hcb:nm.qo s=false:=by
   cases h:nm.qo s
   ·rfl
   ·simp only[nm.qo,gX,List.any_eq_true]at h;obtain⟨_,p,hp,hp2⟩:=h;rw[hne p hp]at hp2
    cases hp2
  refine⟨.int .i64 1,?_,by rw[hcb];rfl,(hB.setCell (p:=⟨w.heap.size+1,0,none⟩) (by simp) _).trans (belowK_b (w:=w) (gI _) _ D _ _ (by simp at hD;omega) hK' rfl rfl)⟩;simp[results,Tryz.f47,go_sem,hc5]
 case stop=>
  rintro D c pre W hD hpre ⟨⟨rfl,⟨p,hp,hp2⟩,hcr⟩,hB⟩ hK
  gi_wp2
  refine⟨by simp,.inl ⟨_,_,rfl,run_takeDeferred hK,?_⟩⟩;have hc5:=cell_kept hcr (grownBy_putObj' _ D (.deferred none)) (λr e=>by cases e;exact⟨_,hK,rfl⟩);have hcb:nm.qo s=true:=by
   simp only[nm.qo,gX,List.any_eq_true,H7];exact⟨hs,p,hpre.subset hp,hp2⟩
  refine⟨.int .i64 0,?_,by rw[hcb];rfl,hB.trans (belowK_b (w:=w) (gI _) W D _ _ (by simp at hD;omega) hK rfl rfl)⟩;simp[results,Tryz.f47,go_sem,hc5]
theorem check_long_in (F:Fence)(n:Nat)(h4:F.fn 47)(hro:F.round=none)(s:ByteArray)(hs:255<s.size)(w:World):
 CallsIn F n Tryz.prog 47 #[.string s] w λe W'=>e= .returned (okV (nm.qo s))/\Below w.heap.size w W':=by
 have hd:decide (255<(s.size:Int))=true:=gF (by omega);have hcb:nm.qo s=false:=by simp[nm.qo];omega
 have HCB:=qe hcb;have hB0:Below w.heap.size w ((w.alloc (.cells #[.string s] 9)).alloc (.cells #[.int .i64 1] 47)):=((gJ _ w).alloc (gI _) _).alloc (by simp) _;have HB0:=qe hB0;clear hcb hB0;refine callsIn_of_wp Tryz.func47 rfl h4 ?_ hro;simp only[Tryz.ntmps47,List.size_toArray,Ha,List.length_nil,Nat.reduceAdd,Nat.reduceSub,Array.replicate_succ,Array.replicate_zero,List.push_toArray,List.append_toArray,List.nil_append,List.cons_append]
 gi_wp2
 refine bodyPost_ret (v:=.int .i64 1) (by simp[results,Tryz.f47,go_sem]) rfl ⟨by rw[HCB.out];rfl,HB0.out⟩
theorem YD (F:Fence)(n:Nat)(h4:F.fn 47)(h6:F.fn 84)(h8:F.fn 135)(hro:F.round=none)(hn:3<=n)(s:ByteArray)(w:World):
 CallsIn F n Tryz.prog 47 #[.string s] w λe W'=>e= .returned (okV (nm.qo s))/\Below w.heap.size w W':=by
 by_cases hs:s.size<=255
 ·exact check_in F n h4 h6 h8 hro hn s hs w
 ·exact check_long_in F n h4 hro s (by omega) w
theorem zy (s:ByteArray)(w:World):Calls Tryz.prog 47 #[.string s] w λe W'=>e= .returned (okV (nm.qo s))/\Below w.heap.size w W':=by
 refine(callsIn_wide (n:=3)).1 ?_;exact YD Fence.wide 3 trivial trivial trivial rfl (gI _) s w
theorem qV {s:ByteArray}(h:nm.qo s=true):s.size<=255:=by
 simp only[nm.qo,gX,H7]at h;exact h.1
theorem count_in (F:Fence)(n:Nat)(h3:F.fn 115)(h4:F.fn 47)(h6:F.fn 84)(h8:F.fn 135)(hro:F.round=none)(hn:4<=n)(s:ByteArray)(hc:nm.qo s=true)(w:World):
 CallsIn F n Tryz.prog 115 #[.string s] w λe W'=>e= .returned (.int .i64 (nm.qM s))/\Below w.heap.size w W':=by
 have h1:1<=n:=by omega
 have hs:=qV hc;have hml:=nm.xm s;have hci:nm.qM s=((nm.marks s).length:Int)-1:=by unfold nm.qM;rw[if_pos hc]
 have HC:=qe hc;have HCI:=qe hci;clear hc hci;refine callsIn_of_wp_marks Tryz.func115 rfl h3 ?_ hro;simp only[Tryz.ntmps115,List.size_toArray,Ha,List.length_nil,Nat.reduceAdd,Nat.reduceSub,Array.replicate_succ,Array.replicate_zero,List.push_toArray,List.append_toArray,List.nil_append,List.cons_append]
 gi_wp2_with (first
  | (gi_at_call 47;refine(YD F (n-1) h4 h6 h8 hro (by omega) s _).mono ?_;rintro e w1 ⟨rfl,hB1⟩;rw[HC.out];unfold okV;rw[if_pos rfl])
  | (gi_at_call 84;refine(J8 F (n-1) h6 hro _ _).mono ?_;rintro e w' ⟨rfl,rfl⟩))
 have c1:=zC w1 (.int .i64 (-1)) 3;have c2:=zC (w1.alloc (.cells #[.int .i64 (-1)] 3)) (.string s) 9;simp only[World.size_alloc]at c2;have hsz:=hB1.size;have hB0:Below w.heap.size w ((w1.alloc (.cells #[.int .i64 (-1)] 3)).alloc (.cells #[.string s] 9)):=(hB1.alloc hsz _).alloc (by simp;omega) _
 refine wpIn_rangeFunc_ownF hro h1 (gf:=135) (lb:=#[.pointer (some ⟨w1.heap.size+1,0,none⟩)]) rfl h8 (enters_of Tryz.func135 (by kernel_rfl) rfl)
  (UQ F (n-1) h8 hro (by omega) (w1.heap.size+1) s (by omega) _ (by simp) c2.1) uD (uE (by simp)) (gJ _ _) (λ_=>rfl)
  (λpre W=>(W.cell? ⟨w1.heap.size,0,none⟩=some (.int .i64 ((pre.length:Int)-1))/\W.frozen? ⟨w1.heap.size,0,none⟩=false)/\Below w.heap.size w W)
  (λ_ _ _=>False)
  (OwnFrom.and (Own.from (λs A B row hs hg hr=>⟨cell_kept hs.1 hg hr,(frozen_kept hs.1 hg hr).trans hs.2⟩) _) (ownFrom_below (by omega) (by simp;omega)))
  (λ_ _ _ _ _ hs _ _=>hs)
  ⟨⟨qx _ c1.1,kE _ c1.1 c1.2⟩,hB0⟩
  (λx=>{ tmps:=#[.string s,undef,.int .i64 0,.pointer (some ⟨w1.heap.size,0,none⟩),.string s,.int .i64 0,.bool false,.string s,.func (.func 135) #[] #[.pointer (some ⟨w1.heap.size+1,0,none⟩)],.int .i64 (x.1:Int),.string x.2,undef,undef,undef],defers:=[]}) ?assign ?body ?done ?stop
 case assign=>
  intro l x W K hK
  gi_wp2
  simpa[markV] using hK
 case body=>
  rintro l pre x W ⟨⟨hcr,hfr⟩,hB⟩ hlen;have HB:=qe hB;clear hB
  gi_wp2
  exact⟨KeepsOthers.setCell _ _ _,(ze.refl _ _).setCell (by simp) _,⟨by rw[World.cell?_setCell_same' _ _ _ (by rw[hcr];rfl)];simp,by rw[World.frozen?_setCell];exact hfr⟩,HB.out.setCell (p:=⟨w1.heap.size,0,none⟩) (by show w.heap.size<=w1.heap.size;omega) _⟩
 case done=>
  rintro D ys W hD rfl ⟨⟨hcr,hfr⟩,hB⟩ hK
  gi_wp2
  refine⟨by simp,.inl ⟨_,_,rfl,run_takeDeferred hK,?_⟩⟩;exact⟨_,results_tmp rfl _ _ _,by rw[HCI.out];rfl,hB.trans (belowK_b (w:=w) (gI _) W D _ _ (by simp at hD;omega) hK rfl rfl)⟩
 case stop=>
  rintro D c pre W _ _ h _;exact h.elim
theorem count_no_in (F:Fence)(n:Nat)(h3:F.fn 115)(h4:F.fn 47)(h6:F.fn 84)(h8:F.fn 135)(hro:F.round=none)(hn:4<=n)(s:ByteArray)(hc:nm.qo s=false)(w:World):
 CallsIn F n Tryz.prog 115 #[.string s] w λe W'=>e= .returned (.int .i64 (nm.qM s))/\Below w.heap.size w W':=by
 have h1:1<=n:=by omega
 have hci:nm.qM s= -1:=by unfold nm.qM;rw[if_neg (by rw[hc];simp)]
 have HC:=qe hc;have HCI:=qe hci;clear hc hci;refine callsIn_of_wp Tryz.func115 rfl h3 ?_ hro;simp only[Tryz.ntmps115,List.size_toArray,Ha,List.length_nil,Nat.reduceAdd,Nat.reduceSub,Array.replicate_succ,Array.replicate_zero,List.push_toArray,List.append_toArray,List.nil_append,List.cons_append]
 gi_wp2_with (gi_at_call 47;refine(YD F (n-1) h4 h6 h8 hro (by omega) s _).mono ?_;rintro e w1 ⟨rfl,hB1⟩;rw[HC.out];unfold okV;rw[if_neg (by simp)])
 go_ret;exact⟨by rw[HCI.out];rfl,hB1⟩
theorem VO (F:Fence)(n:Nat)(h3:F.fn 115)(h4:F.fn 47)(h6:F.fn 84)(h8:F.fn 135)(hro:F.round=none)(hn:4<=n)(s:ByteArray)(w:World):
 CallsIn F n Tryz.prog 115 #[.string s] w λe W'=>e= .returned (.int .i64 (nm.qM s))/\Below w.heap.size w W':=by
 cases hc:nm.qo s
 ·exact count_no_in F n h3 h4 h6 h8 hro hn s hc w
 ·exact count_in F n h3 h4 h6 h8 hro hn s hc w
theorem YC (s:ByteArray)(w:World):Calls Tryz.prog 115 #[.string s] w λe W'=>e= .returned (.int .i64 (nm.qM s))/\Below w.heap.size w W':=by
 refine(callsIn_wide (n:=4)).1 ?_;exact VO Fence.wide 4 trivial trivial trivial trivial rfl (gI _) s w
end Go.Proofs.YtpcmilhjpmlbpaaGreatDoor
namespace Go.Proofs.YtpcmilhjpmlbpaaGreatDoor
open Go.RowKit Go.Shelf
attribute [local go_sem] Oper.semAt_some
theorem tail_in (F:Fence)(n:Nat)(h2:F.fn 155)(h3:F.fn 115)(h4:F.fn 47)(h6:F.fn 84)(h8:F.fn 135)(hro:F.round=none)(hn:5<=n)(s:ByteArray)(k:Int)(hk0:0<=k)(hk1:k<=nm.qM s)(w:World):
 CallsIn F n Tryz.prog 155 #[.string s,.int .i64 k] w λe W'=>e= .returned (.string (nm.zQ s k))/\Below w.heap.size w W':=by
 have h1:1<=n:=by omega
 have hcb:nm.qo s=true:=by
  cases h:nm.qo s
  ·have:nm.qM s= -1:=by unfold nm.qM;rw[if_neg (by rw[h];simp)]
   omega
  ·rfl
 have hs:=qV hcb;have hml:=nm.xm s;have hci:nm.qM s=((nm.marks s).length:Int)-1:=by unfold nm.qM;rw[if_pos hcb]
 have HCI:=qe hci;have hc0:0<=nm.qM s:=by omega
 have hc1:nm.qM s<=255:=by omega
 clear hci hcb;refine callsIn_of_wp_marks Tryz.func155 rfl h2 ?_ hro;simp only[Tryz.ntmps155,List.size_toArray,Ha,List.length_nil,Nat.reduceAdd,Nat.reduceSub,Array.replicate_succ,Array.replicate_zero,List.push_toArray,List.append_toArray,List.nil_append,List.cons_append];obtain⟨c,hc⟩:=yM (nm.qM s);rw[<- hc]at hk1 hc0 hc1;have HC:=qe hc;clear hc;have d1:=zC w (.string s) 9;have d2:=zC (w.alloc (.cells #[.string s] 9)) (.int .i64 k) 3;have d3:=zC ((w.alloc (.cells #[.string s] 9)).alloc (.cells #[.int .i64 k] 3)) (.string ByteArray.empty) 9;simp only[World.size_alloc]at d2 d3;have hB3:Below w.heap.size w (((w.alloc (.cells #[.string s] 9)).alloc (.cells #[.int .i64 k] 3)).alloc (.cells #[.string ByteArray.empty] 9)):=(((gJ _ w).alloc (gI _) _).alloc (by simp) _).alloc (by simp;omega) _;have D1:=qe (qx (.cells #[.string ByteArray.empty] 9) (qx (.cells #[.int .i64 k] 3) d1.1));have D2:=qe (qx (.cells #[.string ByteArray.empty] 9) d2.1);have D3:=qe d3;have HB3:=qe hB3;clear d1 d2 d3 hB3
 gi_wp2_with (first
  | (gi_at_call 115;refine(VO F (n-1) h3 h4 h6 h8 hro (by omega) s _).mono ?_;rintro e w1 ⟨rfl,hB1⟩;rw[<- HC.out];have e1:=(hB1.cell (p:=⟨w.heap.size,0,none⟩) (by simp;omega)).trans D1.out;have e2:=(hB1.cell (p:=⟨w.heap.size+1,0,none⟩) (by simp)).trans D2.out;have e3:=(hB1.cell (p:=⟨w.heap.size+1+1,0,none⟩) (by simp)).trans D3.out.1;have e4:=(hB1.frozen (p:=⟨w.heap.size+1+1,0,none⟩) (by simp)).trans D3.out.2;have e1':=qx (.cells #[.int .i64 c] 3) e1;have e2':=qx (.cells #[.int .i64 c] 3) e2;have e3':=qx (.cells #[.int .i64 c] 3) e3;have e4':=kE (.cells #[.int .i64 c] 3) e3 e4;have hsz:=hB1.size;simp only[World.size_alloc]at hsz;have hBW:=HB3.out.trans (hB1.mono (by simp;omega));have HBW:=qe hBW;clear hB1 hBW)
  | (gi_at_call 84;refine(J8 F (n-1) h6 hro _ _).mono ?_;rintro e w' ⟨rfl,rfl⟩))
 have c1:=zC w1 (.int .i64 c) 3;have c2:=zC (w1.alloc (.cells #[.int .i64 c] 3)) (.string s) 9;simp only[World.size_alloc]at c2;have hB0:Below w.heap.size w ((w1.alloc (.cells #[.int .i64 c] 3)).alloc (.cells #[.string s] 9)):=(HBW.out.alloc (by omega) _).alloc (by simp;omega) _
 refine wpIn_rangeFunc_ownF hro h1 (gf:=135) (lb:=#[.pointer (some ⟨w1.heap.size+1,0,none⟩)]) rfl h8 (enters_of Tryz.func135 (by kernel_rfl) rfl)
  (KA F (n-1) h8 hro (by omega) (w1.heap.size+1) s (by omega) _ (by simp) c2.1) uD (uE (by simp)) (gJ _ _) (λ_=>rfl)
  (λpre W=>((pre.length:Int)<=c-k/\W.cell? ⟨w.heap.size,0,none⟩=some (.string s)/\W.cell? ⟨w.heap.size+1,0,none⟩=some (.int .i64 k)/\W.cell? ⟨w.heap.size+1+1,0,none⟩=some (.string ByteArray.empty)/\W.frozen? ⟨w.heap.size+1+1,0,none⟩=false/\
   W.cell? ⟨w1.heap.size,0,none⟩=some (.int .i64 (c-pre.length))/\W.frozen? ⟨w1.heap.size,0,none⟩=false)/\Below w.heap.size w W)
  (λcd pre W=>(cd= .ret/\(∃ini x,pre=ini ++ [x]/\(ini.length:Int)=c-k/\W.cell? ⟨w.heap.size+1+1,0,none⟩=some (.string (s.extract x.1.1 s.size))))/\Below w.heap.size w W)
  (OwnFrom.and (Own.from (λs A B row hs hg hr=>⟨hs.1,cell_kept hs.2.1 hg hr,cell_kept hs.2.2.1 hg hr,cell_kept hs.2.2.2.1 hg hr,(frozen_kept hs.2.2.2.1 hg hr).trans hs.2.2.2.2.1,cell_kept hs.2.2.2.2.2.1 hg hr,(frozen_kept hs.2.2.2.2.2.1 hg hr).trans hs.2.2.2.2.2.2⟩) _) (ownFrom_below (by omega) (by simp;omega)))
  (λcd=>OwnFrom.and (Own.from (λs A B row hs hg hr=>by obtain⟨h1,ini,x,h2,h3,h4⟩:=hs;exact⟨h1,ini,x,h2,h3,cell_kept h4 hg hr⟩) _) (ownFrom_below (by omega) (by simp;omega)))
  ⟨⟨by simp;omega,qx _ e1',qx _ e2',qx _ e3',kE _ e3' e4',(qx _ c1.1).trans (by simp),kE _ c1.1 c1.2⟩,hB0⟩
  (λx=>{ tmps:=#[.string s,.int .i64 k,.pointer (some ⟨w.heap.size,0,none⟩),.pointer (some ⟨w.heap.size+1,0,none⟩),.pointer (some ⟨w.heap.size+1+1,0,none⟩),.pointer (some ⟨w1.heap.size,0,none⟩),.int .i64 (x.1.1:Int),.string s,.int .i64 c,
   .int .i64 k,.bool (decide (k<0)),.bool (decide (k<0)),.int .i64 c,.int .i64 k,.bool (decide (c<k)),.bool (decide (k<0) || decide (c<k)),.string s,.func (.func 135) #[] #[.pointer (some ⟨w1.heap.size+1,0,none⟩)],.int .i64 (x.1.1:Int),.string x.1.2,undef,undef,undef,undef,undef,undef,undef,undef],defers:=[]}) ?assign ?body ?done ?stop
 case assign=>
  intro l x W K hK
  gi_wp2
  exact hK
 case body=>
  rintro l pre x W ⟨⟨hp,f1,f2,f3,f4,f5,f6⟩,hB⟩ hlen;have hx:=nm.marks_lt x.2;have hx1:(x.1.1:Int)<=s.size:=by omega
  have HB:=qe hB;have HP:=qe hp;clear hB e1' e2' e3' e4' e1 e2 e3 e4 c1 c2;by_cases he:(pre.length:Int)=c-k
  ·have b0:(c-(pre.length:Int) == k)=true:=by rw[Hz];omega
   have HE:=qe he;clear he hp
   gi_wp2
   exact⟨KeepsOthers.setCell _ _ _,⟨rfl,pre,x,rfl,HE.out,World.cell?_setCell_same' _ _ _ (by rw[f3];rfl)⟩,HB.out.setCell (p:=⟨w.heap.size+1+1,0,none⟩) (by simp;omega) _⟩
  ·have b0:(c-(pre.length:Int) == k)=false:=by rw[gG];omega
   have HE:=qe he;clear he hp
   gi_wp2
   refine⟨KeepsOthers.setCell _ _ _,(ze.refl _ _).setCell (by simp) _,⟨by have:=HP.out;have:=HE.out;simp;omega,?_,?_,?_,by rw[World.frozen?_setCell];exact f4,?_,by rw[World.frozen?_setCell];exact f6⟩,HB.out.setCell (p:=⟨w1.heap.size,0,none⟩) (by show w.heap.size<=w1.heap.size;omega) _⟩
   ·exact(World.cell?_setCell_other _ _ _ _ (by simp)).trans f1
   ·exact(World.cell?_setCell_other _ _ _ _ (by simp)).trans f2
   ·exact(World.cell?_setCell_other _ _ _ _ (by simp)).trans f3
   ·rw[World.cell?_setCell_same' _ _ _ (by rw[f5];rfl)];simp;omega
 case done=>
  rintro D ys W hD hys ⟨⟨hp,_⟩,_⟩ _;exfalso;have hl:=congrArg List.length hys;rw[List.length_map]at hl;have:=HCI.out;have:=HC.out;omega
 case stop=>
  rintro D cd pre W hD hpre ⟨⟨rfl,ini,x,rfl,hil,hcr⟩,hB⟩ hK
  gi_wp2
  refine⟨by simp,.inl ⟨_,_,rfl,run_takeDeferred hK,?_⟩⟩;have hc5:=cell_kept hcr (grownBy_putObj' _ D (.deferred none)) (λr e=>by cases e;exact⟨_,hK,rfl⟩);have hx:(nm.marks s)[(c-k).toNat]? =some x.1:=by
   obtain⟨t,ht⟩:=hpre;have h2:(List.map (·.1) (ini ++ [x]) ++ t)[(c-k).toNat]? =(nm.marks s)[(c-k).toNat]?:=by rw[ht]
   rw[List.map_append,List.append_assoc,List.getElem?_append_right (by simp;omega)]at h2;rw[show(c-k).toNat-(ini.map (·.1)).length=0 from by simp;omega]at h2;exact h2.symm
  have htl:nm.zQ s k=s.extract x.1.1 s.size:=by
   unfold nm.zQ;rw[if_pos ⟨hk0,by rw[<- HC.out];exact hk1⟩,<- HC.out,hx];rfl
  refine⟨.string (s.extract x.1.1 s.size),?_,by rw[htl],hB.trans (belowK_b (w:=w) (gI _) W D _ _ (by simp at hD;omega) hK rfl rfl)⟩;simp[results,Tryz.f155,go_sem,hc5]
theorem tail_no (F:Fence)(n:Nat)(h2:F.fn 155)(h3:F.fn 115)(h4:F.fn 47)(h6:F.fn 84)(h8:F.fn 135)(hro:F.round=none)(hn:5<=n)(s:ByteArray)(k:Int)(hk:¬(0<=k/\k<=nm.qM s))(w:World):
 CallsIn F n Tryz.prog 155 #[.string s,.int .i64 k] w λe W'=>e= .returned (.string (nm.zQ s k))/\Below w.heap.size w W':=by
 have h1:1<=n:=by omega
 have htl:nm.zQ s k=ByteArray.empty:=by unfold nm.zQ;rw[if_neg hk]
 have HTL:=qe htl;clear htl;refine callsIn_of_wp_marks Tryz.func155 rfl h2 ?_ hro;simp only[Tryz.ntmps155,List.size_toArray,Ha,List.length_nil,Nat.reduceAdd,Nat.reduceSub,Array.replicate_succ,Array.replicate_zero,List.push_toArray,List.append_toArray,List.nil_append,List.cons_append];obtain⟨c,hc⟩:=yM (nm.qM s);rw[<- hc]at hk;have HC:=qe hc;clear hc;have d1:=zC w (.string s) 9;have d2:=zC (w.alloc (.cells #[.string s] 9)) (.int .i64 k) 3;have d3:=zC ((w.alloc (.cells #[.string s] 9)).alloc (.cells #[.int .i64 k] 3)) (.string ByteArray.empty) 9;simp only[World.size_alloc]at d2 d3;have hB3:Below w.heap.size w (((w.alloc (.cells #[.string s] 9)).alloc (.cells #[.int .i64 k] 3)).alloc (.cells #[.string ByteArray.empty] 9)):=(((gJ _ w).alloc (gI _) _).alloc (by simp) _).alloc (by simp;omega) _;have D1:=qe (qx (.cells #[.string ByteArray.empty] 9) (qx (.cells #[.int .i64 k] 3) d1.1));have D2:=qe (qx (.cells #[.string ByteArray.empty] 9) d2.1);have D3:=qe d3;have HB3:=qe hB3;have b0:(decide (k<0) || decide (c<k))=true:=by
  simp only[Bool.or_eq_true,H7];omega
 have HK:=qe hk;clear d1 d2 d3 hB3 hk
 gi_wp2_with (first
  | (gi_at_call 115;refine(VO F (n-1) h3 h4 h6 h8 hro (by omega) s _).mono ?_;rintro e w1 ⟨rfl,hB1⟩;rw[<- HC.out];have e1:=(hB1.cell (p:=⟨w.heap.size,0,none⟩) (by simp;omega)).trans D1.out;have e2:=(hB1.cell (p:=⟨w.heap.size+1,0,none⟩) (by simp)).trans D2.out;have e3:=(hB1.cell (p:=⟨w.heap.size+1+1,0,none⟩) (by simp)).trans D3.out.1;have e4:=(hB1.frozen (p:=⟨w.heap.size+1+1,0,none⟩) (by simp)).trans D3.out.2;have e1':=qx (.cells #[.int .i64 c] 3) e1;have e2':=qx (.cells #[.int .i64 c] 3) e2;have e3':=qx (.cells #[.int .i64 c] 3) e3;have e4':=kE (.cells #[.int .i64 c] 3) e3 e4;have hsz:=hB1.size;simp only[World.size_alloc]at hsz;have hBW:=HB3.out.trans (hB1.mono (by simp;omega));have HBW:=qe hBW;clear hB1 hBW))
 all_goals (
  have hcr:=World.cell?_setCell_same' (w1.alloc (.cells #[.int .i64 c] 3)) ⟨w.heap.size+1+1,0,none⟩ (.string ⟨#[]⟩) (by rw[e3'];rfl);refine⟨.string ByteArray.empty,?_,by rw[HTL.out],(HBW.out.alloc (by omega) _).setCell (p:=⟨w.heap.size+1+1,0,none⟩) (by simp;omega) _⟩;simp[results,Tryz.f155,go_sem,hcr];rfl)
theorem tail_any (s:ByteArray)(k:Int)(w:World):Calls Tryz.prog 155 #[.string s,.int .i64 k] w λe W'=>e= .returned (.string (nm.zQ s k))/\Below w.heap.size w W':=by
 refine(callsIn_wide (n:=5)).1 ?_;by_cases hk:0<=k/\k<=nm.qM s
 ·exact tail_in Fence.wide 5 trivial trivial trivial trivial trivial rfl (gI _) s k hk.1 hk.2 w
 ·exact tail_no Fence.wide 5 trivial trivial trivial trivial trivial rfl (gI _) s k hk w
end Go.Proofs.YtpcmilhjpmlbpaaGreatDoor
namespace Go.Proofs.YtpcmilhjpmlbpaaGreatDoor
open Go.RowKit Go.Shelf
namespace nm
def uR (s:ByteArray)(k:Nat):UInt8:=s.data.toList[k]?.getD 0
def ZO (c:UInt8):UInt8:=if 65<=c.toNat/\c.toNat<=90 then UInt8.ofNat (c.toNat+32) else c
def kY (s:ByteArray):ByteArray:=⟨(s.data.toList.map ZO).toArray⟩
theorem lowB_yes {c:UInt8}(h1:65<=c.toNat)(h2:c.toNat<=90):((ZO c).toNat:Int)=(c.toNat:Int)+32:=by
 unfold ZO;rw[if_pos ⟨h1,h2⟩,UInt8.toNat_ofNat'];omega
theorem UM {c:UInt8}(h:¬(65<=c.toNat/\c.toNat<=90)):ZO c=c:=by
 unfold ZO;rw[if_neg h]
def xn (s:ByteArray)(k j:Nat):UInt8:=if j<k then ZO (uR s j) else uR s j
theorem lowUp_at (s:ByteArray)(k:Nat):xn s (k+1) k=ZO (uR s k):=by unfold xn;rw[if_pos (by omega)]
theorem Ua (s:ByteArray){k j:Nat}(h:j≠k):xn s (k+1) j=xn s k j:=by
 unfold xn;by_cases hj:j<k
 ·rw[if_pos hj,if_pos (by omega)]
 ·rw[if_neg hj,if_neg (by omega)]
theorem YU (s:ByteArray){k:Nat}(h:ZO (uR s k)=uR s k)(j:Nat):xn s k j=xn s (k+1) j:=by
 by_cases hj:j=k
 ·subst hj;rw[lowUp_at,h];unfold xn;rw[if_neg (by omega)]
 ·rw[Ua s hj]
theorem lowUp_all (s:ByteArray){j:Nat}(h:j<s.size):xn s s.size j=ZO (uR s j):=by unfold xn;rw[if_pos h]
end nm
theorem Kc {P:Program}(w:World)(src dst e:TypeId)(s:ByteArray)(hs:P.underlying src=some .string)(hd:P.underlying dst=some (.slice e))(he:P.underlying e=some (.int .u8)):
 ∃(w1:World) (cap:Nat),(convert src dst (.string s)).run P w= .ok (.slice (some ⟨w.heap.size,0,none⟩) s.size cap) w1/\w1.heap.size=w.heap.size+1/\Below w.heap.size w w1/\
  ∀j,j<s.size->w1.cell? ⟨w.heap.size,j,none⟩=some (.int .u8 ((nm.uR s j).toNat:Int))/\w1.frozen? ⟨w.heap.size,j,none⟩=false:=by
 refine⟨_,_,run_bytes_of_string w src dst e s hs hd he,by simp,((gJ _ w).drew).alloc (by simp) _,λj hj=>⟨?_,?_⟩⟩
 ·have:=World.cell?_alloc_mark w.drew (bytesRow s (grownCap w s.size 0 e)) e ((bytesRow s (grownCap w s.size 0 e)).size,(bytesRow s (grownCap w s.size 0 e)).size+1) j;refine Eq.trans (by simpa using this) ?_;unfold bytesRow nm.uR;rw[Array.getElem?_append_left (by simpa using hj)];have hj':j<s.data.size:=hj;simp[Array.getElem?_eq_getElem hj']
 ·have:=World.frozen?_alloc_mark w.drew (bytesRow s (grownCap w s.size 0 e)) e (bytesRow s (grownCap w s.size 0 e)).size ((bytesRow s (grownCap w s.size 0 e)).size+1) j;refine Eq.trans (by simpa using this) ?_;have hj':j<s.data.size:=hj;have:¬(bytesRow s (grownCap w s.size 0 e)).size<=j:=by unfold bytesRow;simp;omega
  simp[this]
theorem bytes_back {P:Program}(W:World)(src dst e:TypeId)(b cap:Nat)(s:ByteArray)(hs:P.underlying src=some (.slice e))(he:P.underlying e=some (.int .u8))(hd:P.underlying dst=some .string)
 (hrow:∀j,j<s.size->W.cell? ⟨b,j,none⟩=some (.int .u8 ((nm.xn s s.size j).toNat:Int))/\W.frozen? ⟨b,j,none⟩=false):
 (convert src dst (.slice (some ⟨b,0,none⟩) s.size cap)).run P W= .ok (.string (nm.kY s)) W:=by
 have hb:=run_convert_bytes_back (P:=P) W src dst e ⟨b,0,none⟩ cap (s.data.toList.map nm.ZO) hs he hd (λj hj=>by
  have hj':j<s.size:=by simpa using hj
  have h1:=(hrow j hj').1;rw[nm.lowUp_all s hj']at h1;have h2:(s.data.toList.map nm.ZO)[j]=nm.ZO (nm.uR s j):=by
   rw[List.getElem_map];unfold nm.uR;rw[List.getElem?_eq_getElem (by simpa using hj')];rfl
  rw[h2];unfold Addr.add
  split
  ·rename_i h0
   have h0':j=0:=by simpa using h0
   subst h0';exact h1
  ·simpa using h1)
 rw[show(s.data.toList.map nm.ZO).length=s.size by simp]at hb;exact hb
theorem vS (s:ByteArray)(hs:s.size<=140737488355328)(w:World):Calls Tryz.prog 102 #[.string s] w λe W'=>e= .returned (.string (nm.kY s))/\Below w.heap.size w W':=by
 obtain⟨w1,cap,hcv,hsz,hB,hc⟩:=Kc (P:=Tryz.prog) w 9 122 5 s Tryz.underlying9 Tryz.underlying122 Tryz.underlying5;have HB:=qe hB;clear hB
 go_enter Tryz.func102,Tryz.ntmps102
 go_wp2
 go_loopw [10,4,5] (λi _ _ wr=>∃k:Nat,k<=s.size/\i= .int .i64 k/\(∀j,j<s.size->wr.cell? ⟨w.heap.size,j,none⟩=some (.int .u8 ((nm.xn s k j).toNat:Int))/\wr.frozen? ⟨w.heap.size,j,none⟩=false)/\Below w.heap.size w wr) (λi _ _ _=>s.size-(intOf i).toNat)
 case atStart=>exact⟨0,by omega,rfl,λj hj=>by unfold nm.xn;rw[if_neg (by omega)];exact hc j hj,HB.out⟩
 case round=>
  obtain⟨k,hk,rfl,hrow,hfr⟩:=hrel;have HFR:=qe hfr;clear hfr hc hcv;by_cases hlt:k<s.size
  ·have hlt':(k:Int)<s.size:=by omega
   obtain⟨hk1,hk2⟩:=hrow k hlt;have hup:nm.xn s k k=nm.uR s k:=by unfold nm.xn;rw[if_neg (by omega)]
   rw[hup]at hk1;have HUP:=qe hup;clear hup;obtain⟨c,hcc⟩:=yM (nm.uR s k);rw[<- hcc]at hk1;have HCC:=qe hcc;clear hcc;have hc8:(c.toNat:Int)<256:=by have:=UInt8.toNat_lt c;omega
   have hc0:(0:Int)<=c.toNat:=by omega
   by_cases ha:65<=c.toNat
   ·by_cases hz:c.toNat<=90
    ·have ha':(65:Int)<=c.toNat:=by omega
     have hz':(c.toNat:Int)<=90:=by omega
     have jG:=qe hrow;clear hrow
     go_wp2
     refine⟨⟨k+1,by omega,by go_num,λj hj=>⟨?_,?_⟩,HFR.out.setCell (p:=⟨w.heap.size,k,none⟩) (gI _) _⟩,by simp only[intOf];omega⟩
     ·by_cases hjk:j=k
      ·subst hjk;rw[World.cell?_setCell_same' _ _ _ (by rw[hk1];rfl),nm.lowUp_at,<- HCC.out,nm.lowB_yes ha hz]
      ·rw[nm.Ua s hjk];exact(World.cell?_setCell_other _ _ _ _ (by simp)).trans (jG.out j hj).1
     ·rw[World.frozen?_setCell];exact(jG.out j hj).2
    ·have ha':(65:Int)<=c.toNat:=by omega
     have hz':(90:Int)<c.toNat:=by omega
     have jG:=qe hrow;clear hrow
     go_wp2
     refine⟨⟨k+1,by omega,by go_num,λj hj=>⟨?_,(jG.out j hj).2⟩,HFR.out⟩,by simp only[intOf];omega⟩;rw[<- nm.YU s (by rw[<- HCC.out];exact nm.UM (by omega)) j];exact(jG.out j hj).1
   ·have ha':(c.toNat:Int)<65:=by omega
    have jG:=qe hrow;clear hrow
    go_wp2
    refine⟨⟨k+1,by omega,by go_num,λj hj=>⟨?_,(jG.out j hj).2⟩,HFR.out⟩,by simp only[intOf];omega⟩;rw[<- nm.YU s (by rw[<- HCC.out];exact nm.UM (by omega)) j];exact(jG.out j hj).1
  ·have hke:k=s.size:=by omega
   subst hke;have hb:=bytes_back (P:=Tryz.prog) wr 122 9 5 w.heap.size cap s Tryz.underlying122 Tryz.underlying5 Tryz.underlying9 hrow;have jG:=qe hrow;clear hrow
   go_wp2
   go_ret;exact⟨rfl,HFR.out⟩
theorem rlow_any (s:ByteArray)(hs:s.size<=140737488355328)(w:World):Calls Tryz.prog 146 #[.string s] w λe W'=>e= .returned (.string (nm.kY s))/\Below w.heap.size w W':=by
 obtain⟨w1,cap,hcv,hsz,hB,hc⟩:=Kc (P:=Tryz.prog) w 9 122 5 s Tryz.underlying9 Tryz.underlying122 Tryz.underlying5;have HB:=qe hB;clear hB
 go_enter Tryz.func146,Tryz.ntmps146
 go_wp2
 go_loopw [9,4] (λi _ wr=>∃k:Nat,k<=s.size/\i= .int .i64 k/\(∀j,j<s.size->wr.cell? ⟨w.heap.size,j,none⟩=some (.int .u8 ((nm.xn s k j).toNat:Int))/\wr.frozen? ⟨w.heap.size,j,none⟩=false)/\Below w.heap.size w wr) (λi _ _=>s.size-(intOf i).toNat)
 case atStart=>exact⟨0,by omega,rfl,λj hj=>by unfold nm.xn;rw[if_neg (by omega)];exact hc j hj,HB.out⟩
 case round=>
  obtain⟨k,hk,rfl,hrow,hfr⟩:=hrel;have HFR:=qe hfr;clear hfr hc hcv;by_cases hlt:k<s.size
  ·have hlt':(k:Int)<s.size:=by omega
   obtain⟨hk1,hk2⟩:=hrow k hlt;have hup:nm.xn s k k=nm.uR s k:=by unfold nm.xn;rw[if_neg (by omega)]
   rw[hup]at hk1;have HUP:=qe hup;clear hup;obtain⟨c,hcc⟩:=yM (nm.uR s k);rw[<- hcc]at hk1;have HCC:=qe hcc;clear hcc;have hc8:(c.toNat:Int)<256:=by have:=UInt8.toNat_lt c;omega
   have hc0:(0:Int)<=c.toNat:=by omega
   by_cases ha:65<=c.toNat
   ·by_cases hz:c.toNat<=90
    ·have ha':(65:Int)<=c.toNat:=by omega
     have hz':(c.toNat:Int)<=90:=by omega
     have jG:=qe hrow;clear hrow
     go_wp2
     refine⟨⟨k+1,by omega,by go_num,λj hj=>⟨?_,?_⟩,HFR.out.setCell (p:=⟨w.heap.size,k,none⟩) (gI _) _⟩,by simp only[intOf];omega⟩
     ·by_cases hjk:j=k
      ·subst hjk;rw[World.cell?_setCell_same' _ _ _ (by rw[hk1];rfl),nm.lowUp_at,<- HCC.out,nm.lowB_yes ha hz]
      ·rw[nm.Ua s hjk];exact(World.cell?_setCell_other _ _ _ _ (by simp)).trans (jG.out j hj).1
     ·rw[World.frozen?_setCell];exact(jG.out j hj).2
    ·have ha':(65:Int)<=c.toNat:=by omega
     have hz':(90:Int)<c.toNat:=by omega
     have jG:=qe hrow;clear hrow
     go_wp2
     refine⟨⟨k+1,by omega,by go_num,λj hj=>⟨?_,(jG.out j hj).2⟩,HFR.out⟩,by simp only[intOf];omega⟩;rw[<- nm.YU s (by rw[<- HCC.out];exact nm.UM (by omega)) j];exact(jG.out j hj).1
   ·have ha':(c.toNat:Int)<65:=by omega
    have jG:=qe hrow;clear hrow
    go_wp2
    refine⟨⟨k+1,by omega,by go_num,λj hj=>⟨?_,(jG.out j hj).2⟩,HFR.out⟩,by simp only[intOf];omega⟩;rw[<- nm.YU s (by rw[<- HCC.out];exact nm.UM (by omega)) j];exact(jG.out j hj).1
  ·have hke:k=s.size:=by omega
   subst hke;have hb:=bytes_back (P:=Tryz.prog) wr 122 9 5 w.heap.size cap s Tryz.underlying122 Tryz.underlying5 Tryz.underlying9 hrow;have jG:=qe hrow;clear hrow
   go_wp2
   go_ret;exact⟨rfl,HFR.out⟩
namespace nm
def qy (s:ByteArray):ByteArray:=if qo s=true then kY s else ByteArray.empty
def qG (a b:ByteArray):Bool:=qo a && qo b && ((kY a).toList == (kY b).toList)
def UE (s:ByteArray):ByteArray:=zQ s (qM s-1)
def zI (s z:ByteArray):Bool:=decide (0<=qM z) && qG (zQ s (qM z)) z
end nm
theorem vR:okV true= .int .i64 0:=rfl
theorem Yr:okV false= .int .i64 1:=rfl
theorem kU (s:ByteArray)(w:World):Calls Tryz.prog 101 #[.string s] w λe W'=>e= .returned (.string (nm.qy s))/\Below w.heap.size w W':=by
 cases hc:nm.qo s
 ·have HC:=qe hc;clear hc
  go_enter Tryz.func101,Tryz.ntmps101
  go_wp2_with (first | (go_at_call 47;refine(zy _ _).mono ?_;rintro e w1 ⟨rfl,hB1⟩;rw[HC.out,Yr]));go_ret;refine⟨?_,hB1⟩;unfold nm.qy;rw[HC.out];rfl
 ·have hs:=qV hc;have HC:=qe hc;clear hc
  go_enter Tryz.func101,Tryz.ntmps101
  go_wp2_with (first | (go_at_call 47;refine(zy _ _).mono ?_;rintro e w1 ⟨rfl,hB1⟩;rw[HC.out,vR]) | (go_at_call 102;refine(vS _ (by omega) _).mono ?_;rintro e w2 ⟨rfl,hB2⟩));go_ret;refine⟨?_,hB1.trans (hB2.mono hB1.size)⟩;unfold nm.qy;rw[HC.out];rfl
theorem Q5 (a b:ByteArray)(w:World):Calls Tryz.prog 62 #[.string a,.string b] w λe W'=>e= .returned (.bool (nm.qG a b))/\Below w.heap.size w W':=by
 cases ha:nm.qo a
 ·have HA:=qe ha;clear ha
  go_enter Tryz.func62,Tryz.ntmps62
  go_wp2_with (first | (go_at_call 47;refine(zy _ _).mono ?_;rintro e w1 ⟨rfl,hB1⟩;rw[HA.out,Yr]));go_ret;refine⟨?_,hB1⟩;unfold nm.qG;rw[HA.out];rfl
 ·cases hb:nm.qo b
  ·have HA:=qe ha;have HB:=qe hb;clear ha hb
   go_enter Tryz.func62,Tryz.ntmps62
   go_wp2_with (first | (go_at_call 47;refine(zy _ _).mono ?_;first | (rintro e w1 ⟨rfl,hB1⟩;rw[HA.out,vR]) | (rintro e w2 ⟨rfl,hB2⟩;rw[HB.out,Yr])));go_ret;refine⟨?_,hB1.trans (hB2.mono hB1.size)⟩;unfold nm.qG;rw[HA.out,HB.out];rfl
  ·have hsa:=qV ha;have hsb:=qV hb;have HA:=qe ha;have HB:=qe hb;clear ha hb
   go_enter Tryz.func62,Tryz.ntmps62
   go_wp2_with (first | (go_at_call 47;refine(zy _ _).mono ?_;first | (rintro e w1 ⟨rfl,hB1⟩;rw[HA.out,vR]) | (rintro e w2 ⟨rfl,hB2⟩;rw[HB.out,vR])) | (go_at_call 102;refine(vS _ (by omega) _).mono ?_;rintro e w3 ⟨rfl,hB3⟩));go_ret
   rename_i w3a hB3a
   refine⟨?_,((gm hB1 hB2).trans (hB3a.mono (by have:=hB1.size;have:=hB2.size;omega))).trans (hB3.mono (by have:=hB1.size;have:=hB2.size;have:=hB3a.size;omega))⟩;unfold nm.qG;rw[HA.out,HB.out];rfl
theorem countI_ge (s:ByteArray):-1<=nm.qM s:=by
 unfold nm.qM
 split <;> omega
theorem Ka (s:ByteArray):nm.qM s<=255:=by
 have hml:=nm.xm s
 cases h:nm.qo s
 ·unfold nm.qM;rw[if_neg (by rw[h];simp)];omega
 ·have hs:=qV h;unfold nm.qM;rw[if_pos h];omega
theorem parent_any (s:ByteArray)(w:World):Calls Tryz.prog 116 #[.string s] w λe W'=>e= .returned (.string (nm.UE s))/\Below w.heap.size w W':=by
 have h1:=countI_ge s;have h2:=Ka s
 go_enter Tryz.func116,Tryz.ntmps116
 go_wp2_with (first | (go_at_call 115;refine(YC _ _).mono ?_;rintro e w1 ⟨rfl,hB1⟩) | (go_at_call 155;refine(tail_any _ _ _).mono ?_;rintro e w2 ⟨rfl,hB2⟩));go_ret;exact⟨rfl,hB1.trans (hB2.mono hB1.size)⟩
theorem within_any (s z:ByteArray)(w:World):Calls Tryz.prog 113 #[.string s,.string z] w λe W'=>e= .returned (.bool (nm.zI s z))/\Below w.heap.size w W':=by
 have h1:=countI_ge z;have h2:=Ka z;by_cases hk:0<=nm.qM z
 ·go_enter Tryz.func113,Tryz.ntmps113
  go_wp2_with (first | (go_at_call 115;refine(YC _ _).mono ?_;rintro e w1 ⟨rfl,hB1⟩) | (go_at_call 155;refine(tail_any _ _ _).mono ?_;rintro e w2 ⟨rfl,hB2⟩) | (go_at_call 62;refine(Q5 _ _ _).mono ?_;rintro e w3 ⟨rfl,hB3⟩));go_ret;refine⟨?_,(gm hB1 hB2).trans (hB3.mono (by have:=hB1.size;have:=hB2.size;omega))⟩;unfold nm.zI;rw[gF hk];rfl
 ·have hk':nm.qM z<0:=by omega
  go_enter Tryz.func113,Tryz.ntmps113
  go_wp2_with (first | (go_at_call 115;refine(YC _ _).mono ?_;rintro e w1 ⟨rfl,hB1⟩));go_ret;refine⟨?_,hB1⟩;unfold nm.zI;rw[gp (by omega)];rfl
namespace nm
def starHead:ByteArray:=⟨#[1,42]⟩
end nm
end Go.Proofs.YtpcmilhjpmlbpaaGreatDoor
