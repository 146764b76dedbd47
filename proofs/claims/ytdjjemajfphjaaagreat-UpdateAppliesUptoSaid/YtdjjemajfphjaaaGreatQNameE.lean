import Derived.Test.YtdjjemajfphjaaaGreatQNameA
import Derived.Test.YtdjjemajfphjaaaGreatQShelf
import Derived.Test.YtdjjemajfphjaaaGreatQDataK
import Derived.Test.YtdjjemajfphjaaaGreatQNameIt
import Derived.Deep.QuietTactic
import Derived.BigQuiet
import Derived.Lib.Bytealg
import Derived.Lib.Strings
set_option maxRecDepth 100000
set_option maxHeartbeats 2000000
namespace Go.Proofs.YtdjjemajfphjaaaGreat
open Go.RowKit Go.Shelf
namespace nm
def kP (s:ByteArray):Bool:=ql s && Lib.hasPrefix s.data.toList starHead.data.toList
end nm
theorem XV (s:ByteArray)(w:World):Calls Tryz.prog 113 #[.string s] w fun e W'=>e= .returned (.bool (nm.kP s))∧Below w.heap.size w W':=by
 cases hc:nm.ql s
 ·have HC:=Lib.hid hc
  clear hc
  go_enter Tryz.func113,Tryz.ntmps113
  go_wp2_with (first | (go_at_call 55;refine(zz _ _).mono ?_;rintro e w1 ⟨rfl,hB1⟩;rw[HC.out,Yx]))
  go_ret
  refine⟨?_,hB1⟩
  unfold nm.kP
  rw[HC.out]
  rfl
 ·have HC:=Lib.hid hc
  clear hc
  go_enter Tryz.func113,Tryz.ntmps113
  go_wp2_with (first | (go_at_call 55;refine(zz _ _).mono ?_;rintro e w1 ⟨rfl,hB1⟩;rw[HC.out,vQ]) | (go_at_call 146;refine(Tryz.strings_HasPrefix _ _ _).mono ?_;rintro e w2 ⟨rfl,rfl⟩))
  go_ret
  refine⟨?_,hB1⟩
  unfold nm.kP
  rw[HC.out]
  rfl
end Go.Proofs.YtdjjemajfphjaaaGreat
namespace Go.Proofs.YtdjjemajfphjaaaGreat
open Go.RowKit Go.Shelf
attribute [local go_sem] Oper.semAt_some
namespace nm
def vH (p:List (Nat×ByteArray)):List ByteArray:=(p.map (·.2)).filter (fun l=>!l.toList.isEmpty)
def yZ (s:ByteArray):List ByteArray:=if ql s=true then vH (marks s) else []
end nm
theorem labels_no (F:Fence)(n:Nat)(h2:F.fn 157)(h4:F.fn 55)(h6:F.fn 103)(h8:F.fn 145)(hro:F.round=none)(hn:4≤n)(s:ByteArray)(hc:nm.ql s=false)(w:World):
 CallsIn F n Tryz.prog 157 #[.string s] w fun e W'=>e= .returned (.slice none 0 0)∧Below w.heap.size w W':=by
 have h1:1≤n:=by omega
 have HC:=Lib.hid hc
 clear hc
 refine callsIn_of_wp_marks Tryz.func157 rfl h2 ?_ hro
 simp only[Tryz.ntmps157,List.size_toArray,List.length_cons,List.length_nil,Nat.reduceAdd,Nat.reduceSub,Array.replicate_succ,Array.replicate_zero,List.push_toArray,List.append_toArray,List.nil_append,List.cons_append]
 have hB0:=(Below.refl _ w).alloc (Nat.le_refl _) (.cells #[.slice none 0 0] 130)
 gi_wp2_with (gi_at_call 55;refine(ZW F (n-1) h4 h6 h8 hro (by omega) s _).mono ?_;rintro e w1 ⟨rfl,hB1⟩;rw[HC.out,Yx])
 refine⟨.slice none 0 0,?_,rfl,hB0.trans (hB1.mono (by simp))⟩
 simp[results,Tryz.f157,go_sem]
theorem Ve {W w1:World}{n₀ B b m₀:Nat}{t e:TypeId}{size:Nat}{v v':Value}{k m:Nat}{xs ys:List Value}{tmp:Obj}
 (hv:Boxed W B t v) (hte:t≠e) (hrow:W.ownsRow n₀ e size v k xs) (hn₀:n₀≤W.heap.size) (hb:b<n₀) (hbB:b≠B) (hm:m₀≤n₀) (hmB:m₀≤B)
 (hown':w1.ownsRow n₀ e size v' m ys) (hgrow:(W.alloc tmp).grownBy w1 v.ownBlock):
 Boxed w1 B t v∧Boxed (w1.setCell ⟨B,0,none⟩ v') B t v'∧(w1.setCell ⟨B,0,none⟩ v').ownsRow n₀ e size v' m ys∧KeepsOthers W (w1.setCell ⟨B,0,none⟩ v')∧zu b W (w1.setCell ⟨B,0,none⟩ v')∧Below m₀ W (w1.setCell ⟨B,0,none⟩ v'):=by
 have hv1:Boxed w1 B t v:=(hv.alloc tmp).kept hgrow (hv.not_row hte hrow)
 have hown:∀j,v.ownBlock=some j→n₀≤j:=by
  intro j ej
  rcases hrow.2 with⟨rfl,_⟩|⟨g,cap,cur,rfl,hb,_,_⟩
  ·simp[Value.ownBlock]at ej
  ·obtain rfl:g=j:=by simpa[Value.ownBlock] using ej
   exact hb
 refine⟨hv1,hv1.set v',hown'.kept (grownBy_setCell' w1 B v') (.inr (hv1.not_row hte hown').symm),?_,?_,?_⟩
 ·refine((KeepsOthers.alloc W tmp).trans (KeepsOthers.of_grownBy hgrow fun j o ej hj=>?_)).trans (KeepsOthers.setCell _ _ _)
  rcases(hrow.alloc tmp).2 with⟨rfl,_⟩|⟨g,cap,cur,rfl,_,hgb,_⟩
  ·simp[Value.ownBlock]at ej
  ·obtain rfl:g=j:=by simpa[Value.ownBlock] using ej
   rw[hgb]at hj;cases hj;rfl
 ·have h1:zu b W (W.alloc tmp):=(zu.refl b W).alloc (by omega) tmp
  have h2:zu b (W.alloc tmp) w1:=hgrow.block b (by simp;omega) (fun ej=>by have:=hown b ej.symm;omega)
  exact zu.setCell (show zu b W w1 from h2.trans h1) hbB v'
 ·refine(((Below.refl m₀ W).alloc (by omega) tmp).grown hgrow (by simp;omega) fun j ej=>?_).setCell (p:=⟨B,0,none⟩) hmB v'
  have:=hown j ej
  omega
theorem ZK:(Tryz.prog.info? 9).map (fun i=>(i.zero,i.size,i.bytes))=some (some (.string ByteArray.empty),1,16):=by kernel_rfl
theorem yj {W:World}{base base':Nat}{e:TypeId}{size:Nat}{v:Value}{m:Nat}{xs:List Value}(h:W.ownsRow base e size v m xs)(hb:base'≤base):W.ownsRow base' e size v m xs:=by
 refine⟨h.1,?_⟩
 rcases h.2 with hn | ⟨g,cap,cur,hv,hg,rest⟩
 ·exact .inl hn
 ·exact .inr ⟨g,cap,cur,hv,by omega,rest⟩
theorem labelsL_in (F:Fence)(n:Nat)(h2:F.fn 157)(h4:F.fn 55)(h6:F.fn 103)(h8:F.fn 145)(hro:F.round=none)(hn:4≤n)(s:ByteArray)(hc:nm.ql s=true)(w:World):
 CallsIn F n Tryz.prog 157 #[.string s] w fun e W'=>(∃v,e= .returned v∧W'.ownsRow w.heap.size 9 1 v (nm.yZ s).length ((nm.yZ s).map .string))∧Below w.heap.size w W':=by
 have h1:1≤n:=by omega
 have hs:=qP hc
 have hml:=nm.vR s
 have HC:=Lib.hid hc
 clear hc
 refine callsIn_of_wp_marks Tryz.func157 rfl h2 ?_ hro
 simp only[Tryz.ntmps157,List.size_toArray,List.length_cons,List.length_nil,Nat.reduceAdd,Nat.reduceSub,Array.replicate_succ,Array.replicate_zero,List.push_toArray,List.append_toArray,List.nil_append,List.cons_append]
 have hB0:=(Below.refl _ w).alloc (Nat.le_refl _) (.cells #[.slice none 0 0] 130)
 have D1:=Lib.hid (Boxed.new w 130 (.slice none 0 0))
 gi_wp2_with (first
  | (gi_at_call 55;refine(ZW F (n-1) h4 h6 h8 hro (by omega) s _).mono ?_;rintro e w1 ⟨rfl,hB1⟩;rw[HC.out,vQ])
  | (gi_at_call 103;refine(Jy F (n-1) h6 hro _ _).mono ?_;rintro e w' ⟨rfl,rfl⟩))
 have c2:=yG w1 (.string s) 9
 have hsz:=hB1.size
 simp only[World.size_alloc]at hsz
 have hb1:Boxed (w1.alloc (.cells #[.string s] 9)) w.heap.size 130 (.slice none 0 0):=Boxed.alloc ((hB1.block _ (by simp)).trans D1.out) _
 have hBW:Below w.heap.size w (w1.alloc (.cells #[.string s] 9)):=(hB0.trans (hB1.mono (by simp))).alloc (by omega) _
 refine wpIn_rangeFunc_ownF hro h1 (gf:=145) (lb:=#[.pointer (some ⟨w1.heap.size,0,none⟩)]) rfl h8 (enters_of Tryz.func145 (by kernel_rfl) rfl)
  (JL F (n-1) h8 hro (by omega) w1.heap.size s (by omega) _ (by simp) c2.1) Yj (Yk (by simp)) (Below.refl _ _) (fun _=>rfl)
  (fun pre W=>(∃v,Boxed W w.heap.size 130 v∧W.ownsRow (w1.heap.size+1) 9 1 v (nm.vH (pre.map (·.1))).length ((nm.vH (pre.map (·.1))).map .string)∧True)∧(w1.heap.size+1≤W.heap.size∧Below w.heap.size w W))
  (fun _ _ _=>False)
  (OwnFrom.and (Own.from (holdsRow_own (w1.heap.size+1) w.heap.size 130 9 1 (fun pre:List { p:Nat×ByteArray // p∈nm.marks s}=>(nm.vH (pre.map (·.1))).length) (fun pre=>(nm.vH (pre.map (·.1))).map .string) (fun _ _=>True)) _) (OwnFrom.and (fun s A B row hs hg hr=>Nat.le_trans hs hg.size) (ownFrom_below (by omega) (by simp;omega))))
  (fun _ _ _ _ _ h _ _=>h)
  ⟨⟨_,hb1,World.ownsRow_nil _ _ _ _,trivial⟩,by simp,hBW⟩
  (fun x=>{ tmps:=#[.string s,undef,.slice none 0 0,.pointer (some ⟨w.heap.size,0,none⟩),undef,.string x.1.2,.string s,.int .i64 0,.bool false,.string s,
   .func (.func 145) #[] #[.pointer (some ⟨w1.heap.size,0,none⟩)],.int .i64 (x.1.1:Int),.string x.1.2,undef,undef,undef,undef,undef,undef,undef],defers:=[]}) ?assign ?body ?done ?stop
 case assign=>
  intro l x W K hK
  dsimp only[markV]
  gi_wp2
  exact hK
 case body=>
  rintro l pre x W ⟨⟨v,hv,hrow,_⟩,hws,hB⟩ hlen
  have hx:=hv.cell
  have hfz:=hv.frozen
  have HB:=Lib.hid hB;have HR:=Lib.hid hrow;have HV:=Lib.hid hv
  have HL:=Lib.hid hlen
  clear hB hrow hv hlen
  cases he:x.1.2.toList.isEmpty
  ·have hkl:nm.vH ((pre ++ [x]).map (·.1))=nm.vH (pre.map (·.1)) ++ [x.1.2]:=by
    unfold nm.vH
    rw[List.map_append,List.map_append,List.filter_append]
    congr 1
    simp[he]
   have HKL:=Lib.hid hkl
   clear hkl
   obtain⟨i0,hi,hz0,hz1,hz2⟩:=info_parts ZK
   have hkn:(nm.vH (pre.map (·.1))).length≤pre.length:=by
    unfold nm.vH
    refine Nat.le_trans (List.length_filter_le _ _) (by simp)
   have q1:(nm.vH (pre.map (·.1))).length+1≤maxLen:=by have:=HL.out;simp only[maxLen];omega
   have q2:((nm.vH (pre.map (·.1))).length+1)*16≤140737488355328:=by have:=HL.out;omega
   have Q1:=Lib.hid q1;have Q2:=Lib.hid q2
   have HI:=Lib.hid hi;have HZ:=Lib.hid hz0;have HZ1:=Lib.hid hz1;have HZ2:=Lib.hid hz2
   clear hkn q1 q2 hi hz0 hz1 hz2
   gi_wp2_with (gi_at_builtin;refine wpListIn_append_own _ rfl _ _ 130 rfl (w1.heap.size+1) 9 i0 (.string ByteArray.empty) 1 16 Tryz.underlying130 HI.out HZ.out HZ1.out HZ2.out rfl (by decide) _ _ _ rfl (HR.out.alloc _) ⟨W.heap.size,0,none⟩ 1 1 [.string x.1.2] rfl rfl (cell_one_new _ _ _) (by simp[Value.oneCell']) Q1.out Q2.out (by simp;omega) ?_;intro v' w2 hown' hgrow _;obtain⟨g',cap',rfl⟩:=ownsRow_succ hown';obtain⟨hv1,hv2,hr2,hk2,hkb,hb2⟩:=Ve (b:=w1.heap.size) (m₀:=w.heap.size) HV.out (by decide) HR.out (by omega) (by omega) (by omega) (by omega) (by omega) hown' hgrow;have hc1:=hv1.cell;have hf1:=hv1.frozen;have HV2:=Lib.hid hv2;have HR2:=Lib.hid hr2;have HK2:=Lib.hid hk2;have HKB:=Lib.hid hkb;have HB2:=Lib.hid hb2;clear hown' hgrow hv1 hv2 hr2 hk2 hkb hb2)
   refine⟨HK2.out,HKB.out,⟨_,HV2.out,?_⟩,Nat.le_trans hws HB2.out.size,HB.out.trans HB2.out⟩
   have hr:=HR2.out
   rw[HKL.out]
   simp
   exact hr
  ·have hkl:nm.vH ((pre ++ [x]).map (·.1))=nm.vH (pre.map (·.1)):=by
    unfold nm.vH
    rw[List.map_append,List.map_append,List.filter_append]
    simp[he]
   have HKL:=Lib.hid hkl
   clear hkl
   gi_wp2
   refine⟨KeepsOthers.refl _,zu.refl _ _,⟨_,HV.out,?_⟩,hws,HB.out⟩
   rw[HKL.out]
   exact HR.out
 case done=>
  rintro D ys W hD hys ⟨⟨v,hv,hrow,_⟩,hws,hB⟩ hK
  have hx:=hv.cell
  have HYS:=Lib.hid hys
  clear hys
  gi_wp2
  refine⟨by simp,.inl ⟨_,_,rfl,run_takeDeferred hK,?_⟩⟩
  refine⟨_,results_tmp rfl _ _ _,⟨v,rfl,?_⟩,hB.trans (belowK_b (w:=w) (Nat.le_refl _) W D _ _ (by simp at hD;omega) hK rfl rfl)⟩
  have hll:nm.yZ s=nm.vH (ys.map (·.1)):=by
   unfold nm.yZ
   rw[if_pos HC.out,HYS.out]
  rw[hll]
  exact ownsRow_putObj (yj hrow (by omega)) _ hK rfl
 case stop=>
  rintro D cd pre W hD hpre h hK
  exact h.elim
theorem vG (s:ByteArray)(w:World):Calls Tryz.prog 157 #[.string s] w fun e W'=>(∃v,e= .returned v∧W'.ownsRow w.heap.size 9 1 v (nm.yZ s).length ((nm.yZ s).map .string))∧Below w.heap.size w W':=by
 refine(callsIn_wide (n:=4)).1 ?_
 cases hc:nm.ql s
 ·refine(labels_no Fence.wide 4 trivial trivial trivial trivial rfl (Nat.le_refl _) s hc w).mono ?_
  rintro e w' ⟨rfl,hB⟩
  have hl:nm.yZ s= []:=by unfold nm.yZ;rw[if_neg (by rw[hc];simp)]
  rw[hl]
  exact⟨⟨_,rfl,World.ownsRow_nil _ _ _ _⟩,hB⟩
 ·exact labelsL_in Fence.wide 4 trivial trivial trivial trivial rfl (Nat.le_refl _) s hc w
end Go.Proofs.YtdjjemajfphjaaaGreat
namespace Go.Proofs.YtdjjemajfphjaaaGreat
open Go.RowKit Go.Shelf
namespace nm
def yB:List ByteArray→List ByteArray→Int
 | [],[]=>0
 | [],_ :: _=>-1
 | _ :: _,[]=>1
 | a :: x,b :: y=>if Lib.compareBytes a.data.toList b.data.toList=0 then yB x y else Lib.compareBytes a.data.toList b.data.toList
def q8 (a b:ByteArray):Int:=if ql a=true∧ql b=true then yB (yZ (uh a)).reverse (yZ (uh b)).reverse else 0
theorem ZE {X:List ByteArray}{k:Nat}(h1:1≤k)(h2:k≤X.length):X.reverse.drop (k-1)=X[X.length-k]'(by omega) :: X.reverse.drop k:=by
 obtain⟨k,rfl⟩:∃j,k=j+1:=⟨k-1,by omega⟩
 rw[Nat.add_sub_cancel,List.drop_eq_getElem_cons (by simp;omega)]
 congr 1
 rw[List.getElem_reverse]
 congr 1
 omega
theorem cmp_next {X Y:List ByteArray}{k:Nat}(h1:1≤k)(hx:k≤X.length)(hy:k≤Y.length)(h:Lib.compareBytes (X[X.length-k]'(by omega)).data.toList (Y[Y.length-k]'(by omega)).data.toList=0):
 yB (X.reverse.drop (k-1)) (Y.reverse.drop (k-1))=yB (X.reverse.drop k) (Y.reverse.drop k):=by
 rw[ZE h1 hx,ZE h1 hy,yB,if_pos h]
theorem cmp_stop {X Y:List ByteArray}{k:Nat}(h1:1≤k)(hx:k≤X.length)(hy:k≤Y.length)(h:Lib.compareBytes (X[X.length-k]'(by omega)).data.toList (Y[Y.length-k]'(by omega)).data.toList≠0):
 yB (X.reverse.drop (k-1)) (Y.reverse.drop (k-1))=Lib.compareBytes (X[X.length-k]'(by omega)).data.toList (Y[Y.length-k]'(by omega)).data.toList:=by
 rw[ZE h1 hx,ZE h1 hy,yB,if_neg h]
theorem cmp_end {X Y:List ByteArray}{k:Nat}(h1:1≤k)(hx:k≤X.length+1)(hy:k≤Y.length+1)(h:X.length<k∨Y.length<k):
 yB (X.reverse.drop (k-1)) (Y.reverse.drop (k-1))=if X.length<Y.length then -1 else if Y.length<X.length then 1 else 0:=by
 by_cases a:X.length<Y.length
 ·have hx0:X.reverse.drop (k-1)= []:=List.drop_eq_nil_of_le (by simp;omega)
  rw[if_pos a,hx0,ZE h1 (by omega),yB]
 ·rw[if_neg a]
  by_cases b:Y.length<X.length
  ·have hy0:Y.reverse.drop (k-1)= []:=List.drop_eq_nil_of_le (by simp;omega)
   rw[if_pos b,hy0,ZE h1 (by omega),yB]
  ·have hx0:X.reverse.drop (k-1)= []:=List.drop_eq_nil_of_le (by simp;omega)
   have hy0:Y.reverse.drop (k-1)= []:=List.drop_eq_nil_of_le (by simp;omega)
   rw[if_neg b,hx0,hy0,yB]
theorem cmp_range (a b:ByteArray):-1≤Lib.compareBytes a.data.toList b.data.toList∧Lib.compareBytes a.data.toList b.data.toList≤1:=by
 have h:∀x y:List UInt8,-1≤Lib.compareBytes x y∧Lib.compareBytes x y≤1:=by
  intro x
  induction x with
  | nil=>intro y;cases y <;> simp[Lib.compareBytes]
  | cons c x ih=>
    intro y
    cases y with
    | nil=>simp[Lib.compareBytes]
    | cons d y=>
      rw[Lib.compareBytes]
      split
      ·omega
      ·split
       ·omega
       ·exact ih y
 exact h _ _
theorem VA (s:ByteArray):(yZ s).length≤s.size:=by
 unfold yZ
 split
 ·unfold vH
  refine Nat.le_trans (List.length_filter_le _ _) ?_
  rw[List.length_map]
  exact vR s
 ·exact Nat.zero_le _
theorem U1 (s:ByteArray):(uh s).size=s.size:=by
 show(uh s).data.size=s.data.size
 unfold uh
 simp
end nm
theorem Je {B:Nat}{a w:World}(h:Below B a w)(n:Nat):Below B a (w.drewN n):=⟨h.os,h.tape,h.output,h.size,h.block⟩
theorem KJ {W W':World}{base:Nat}{e:TypeId}{v:Value}{xs:List ByteArray}(h:W.ownsRow base e 1 v xs.length (xs.map .string))(hk:∀g,g<W.heap.size→W'.heap[g]? =W.heap[g]?):
 ∃a cap,v= .slice a xs.length cap∧xs.length≤cap∧∀j (hj:j<xs.length),∃g,a=some ⟨g,0,none⟩∧W'.cell? ⟨g,j,none⟩=some (.string xs[j]):=by
 rcases h.2 with⟨rfl,h0⟩|⟨g,cap,cur,rfl,_,hg,hnc,_,_,hx⟩
 ·exact⟨none,0,by rw[h0],by omega,fun j hj=>by omega⟩
 ·refine⟨_,cap,rfl,hnc,fun j hj=>⟨g,rfl,?_⟩⟩
  have hg':=(hk g (qw hg)).trans hg
  rw[qg hg']
  have h2:(xs.map Value.string)[j]? =some (.string xs[j]):=by rw[List.getElem?_map,List.getElem?_eq_getElem hj];rfl
  rw[← h2,← hx,List.getElem?_take]
  split
  ·simp
  ·omega
theorem xM {W:World}{base:Nat}{e:TypeId}{g n cap:Nat}{xs:List Value}(h:W.ownsRow base e 1 (.slice (some ⟨g,0,none⟩) n cap) n xs):∀j (hj:j<xs.length),W.cell? ⟨g,j,none⟩=some xs[j]:=by
 intro j hj
 rcases h.2 with⟨h0,_⟩|⟨g',cap',cur,he,_,hg,hnc,_,_,hx⟩
 ·cases h0
 ·simp only[Value.slice.injEq,Option.some.injEq,Addr.mk.injEq,and_true,true_and]at he
  obtain⟨rfl,rfl⟩:=he
  rw[qg hg]
  have h2:xs[j]? =some xs[j]:=List.getElem?_eq_getElem hj
  rw[← h2,← hx,List.getElem?_take]
  split
  ·simp
  ·have:=h.1;omega
theorem compare_no (a b:ByteArray)(ha:a.size≤140737488355328)(hb:b.size≤140737488355328)(h:¬(nm.ql a=true∧nm.ql b=true))(w:World):Calls Tryz.prog 120 #[.string a,.string b] w fun e W'=>e= .returned (.int .i64 (nm.q8 a b))∧Below w.heap.size w W':=by
 have hr:nm.q8 a b=0:=by unfold nm.q8;rw[if_neg h]
 have HR:=Lib.hid hr
 clear hr
 cases ca:nm.ql a
 ·have CA:=Lib.hid ca
  clear ca h
  go_enter Tryz.func120,Tryz.ntmps120
  go_wp2_with fail
  refine(vF a ha _).mono ?_;rintro e w1 ⟨rfl,hB1⟩
  go_wp2_with fail
  refine(vG _ _).mono ?_;rintro e w2 ⟨⟨v1,rfl,hR1⟩,hB2⟩
  go_wp2_with fail
  refine(vF b hb _).mono ?_;rintro e w3 ⟨rfl,hB3⟩
  go_wp2_with fail
  refine(vG _ _).mono ?_;rintro e w4 ⟨⟨v2,rfl,hR2⟩,hB4⟩
  go_wp2_with (go_at_call 55;refine(zz _ _).mono ?_;rintro e w5 ⟨rfl,hB5⟩;rw[CA.out,Yx])
  go_ret
  have z1:=hB1.size;have z2:=hB2.size;have z3:=hB3.size;have z4:=hB4.size
  exact⟨qH HR.out.symm,(((hB1.trans (hB2.mono z1)).trans (hB3.mono (by omega))).trans (hB4.mono (by omega))).trans (hB5.mono (by omega))⟩
 ·cases cb:nm.ql b
  ·have CA:=Lib.hid ca;have CB:=Lib.hid cb
   clear ca cb h
   go_enter Tryz.func120,Tryz.ntmps120
   go_wp2_with fail
   refine(vF a ha _).mono ?_;rintro e w1 ⟨rfl,hB1⟩
   go_wp2_with fail
   refine(vG _ _).mono ?_;rintro e w2 ⟨⟨v1,rfl,hR1⟩,hB2⟩
   go_wp2_with fail
   refine(vF b hb _).mono ?_;rintro e w3 ⟨rfl,hB3⟩
   go_wp2_with fail
   refine(vG _ _).mono ?_;rintro e w4 ⟨⟨v2,rfl,hR2⟩,hB4⟩
   go_wp2_with fail
   refine(zz _ _).mono ?_;rintro e w5 ⟨rfl,hB5⟩;rw[CA.out,vQ]
   go_wp2_with fail
   refine(zz _ _).mono ?_;rintro e w6 ⟨rfl,hB6⟩;rw[CB.out,Yx]
   go_wp2_with fail
   go_ret
   have z1:=hB1.size;have z2:=hB2.size;have z3:=hB3.size;have z4:=hB4.size;have z5:=hB5.size
   exact⟨qH HR.out.symm,((((hB1.trans (hB2.mono z1)).trans (hB3.mono (by omega))).trans (hB4.mono (by omega))).trans (hB5.mono (by omega))).trans (hB6.mono (by omega))⟩
  ·exact absurd ⟨ca,cb⟩ h
theorem VE (a b:ByteArray)(ha:nm.ql a=true)(hb:nm.ql b=true)(w:World):Calls Tryz.prog 120 #[.string a,.string b] w fun e W'=>e= .returned (.int .i64 (nm.q8 a b))∧Below w.heap.size w W':=by
 have hr:nm.q8 a b=nm.yB (nm.yZ (nm.uh a)).reverse (nm.yZ (nm.uh b)).reverse:=by unfold nm.q8;rw[if_pos ⟨ha,hb⟩]
 have sa:=qP ha
 have sb:=qP hb
 have CA:=Lib.hid ha;have CB:=Lib.hid hb
 clear ha hb
 have hlx:=nm.VA (nm.uh a)
 have hly:=nm.VA (nm.uh b)
 rw[nm.U1]at hlx hly
 go_enter Tryz.func120,Tryz.ntmps120
 obtain⟨X,hX⟩:∃X,X=nm.yZ (nm.uh a):=⟨_,rfl⟩
 obtain⟨Y,hY⟩:∃Y,Y=nm.yZ (nm.uh b):=⟨_,rfl⟩
 rw[← hX,← hY]at hr
 rw[← hX]at hlx
 rw[← hY]at hly
 have HR:=Lib.hid hr;have HX:=Lib.hid hX;have HY:=Lib.hid hY
 clear hr hX hY
 go_wp2_with fail
 refine(vF a (by omega) _).mono ?_;rintro e w1 ⟨rfl,hB1⟩
 go_wp2_with fail
 refine(vG _ _).mono ?_;rintro e w2 ⟨⟨v1,rfl,hR1⟩,hB2⟩
 rw[← HX.out]at hR1
 have HR1:=Lib.hid hR1
 clear hR1
 go_wp2_with fail
 refine(vF b (by omega) _).mono ?_;rintro e w3 ⟨rfl,hB3⟩
 go_wp2_with fail
 refine(vG _ _).mono ?_;rintro e w4 ⟨⟨v2,rfl,hR2⟩,hB4⟩
 rw[← HY.out]at hR2
 have HR2:=Lib.hid hR2
 clear hR2
 go_wp2_with fail
 refine(zz _ _).mono ?_;rintro e w5 ⟨rfl,hB5⟩;rw[CA.out,vQ]
 go_wp2_with fail
 refine(zz _ _).mono ?_;rintro e w6 ⟨rfl,hB6⟩;rw[CB.out,vQ]
 have z1:=hB1.size;have z2:=hB2.size;have z3:=hB3.size;have z4:=hB4.size;have z5:=hB5.size
 have hB:=Lib.hid (((((hB1.trans (hB2.mono z1)).trans (hB3.mono (by omega))).trans (hB4.mono (by omega))).trans (hB5.mono (by omega))).trans (hB6.mono (by omega)))
 have k1:∀g,g<w2.heap.size→w6.heap[g]? =w2.heap[g]?:=fun g hg=>(hB6.block g (by omega)).trans ((hB5.block g (by omega)).trans ((hB4.block g (by omega)).trans (hB3.block g hg)))
 have k2:∀g,g<w4.heap.size→w6.heap[g]? =w4.heap[g]?:=fun g hg=>(hB6.block g (by omega)).trans (hB5.block g hg)
 have K1:=Lib.hid k1;have K2:=Lib.hid k2
 clear k1 k2
 obtain⟨ax,cx,hv1,hcx,fx⟩:=KJ HR1.out K1.out
 obtain⟨ay,cy,hv2,hcy,fy⟩:=KJ HR2.out K2.out
 subst hv1 hv2
 have FX:=Lib.hid fx;have FY:=Lib.hid fy
 clear fx fy
 go_wp2_with fail
 go_loopw [7,4,8] (fun kv _ _ wr=>∃k:Nat,1≤k∧k≤X.length+1∧k≤Y.length+1∧kv= .int .i64 k∧nm.q8 a b=nm.yB (X.reverse.drop (k-1)) (Y.reverse.drop (k-1))∧wr.heap=w6.heap∧Below w.heap.size w wr) (fun kv _ _ _=>X.length+2-(intOf kv).toNat)
 case atStart=>exact⟨1,by omega,by omega,by omega,rfl,HR.out,rfl,hB.out⟩
 case round=>
  obtain⟨k,hk1,hkx,hky,rfl,he,hh,hb⟩:=hrel
  have HE:=Lib.hid he;have HH:=Lib.hid hh;have HB:=Lib.hid hb
  clear he hh hb
  by_cases hlt:k≤X.length∧k≤Y.length
  ·obtain⟨hlx',hly'⟩:=hlt
   obtain⟨gx,rfl,cx1⟩:=FX.out (X.length-k) (by omega)
   obtain⟨gy,rfl,cy1⟩:=FY.out (Y.length-k) (by omega)
   rw[← World.cell?_of_block (w:=w6) (a:=⟨gx,X.length-k,none⟩) (by rw[HH.out])]at cx1
   rw[← World.cell?_of_block (w:=w6) (a:=⟨gy,Y.length-k,none⟩) (by rw[HH.out])]at cy1
   have e1:IntKind.i64.wrap ((X.length:Int)-k)=(X.length:Int)-k:=IntWalk.i64_in _ (by omega)
   have e2:(0:Int)≤(X.length:Int)-k:=by omega
   have e3:((X.length:Int)-k).toNat=X.length-k:=by omega
   have e4:IntKind.i64.wrap ((Y.length:Int)-k)=(Y.length:Int)-k:=IntWalk.i64_in _ (by omega)
   have e5:(0:Int)≤(Y.length:Int)-k:=by omega
   have e6:((Y.length:Int)-k).toNat=Y.length-k:=by omega
   have e7:(X.length:Int)-k<X.length:=by omega
   have e8:(Y.length:Int)-k<Y.length:=by omega
   have px:X.length-k<X.length:=by omega
   have py:Y.length-k<Y.length:=by omega
   have hcr:=nm.cmp_range (X[X.length-k]'px) (Y[Y.length-k]'py)
   have HCR:=Lib.hid hcr
   clear hcr
   by_cases hc0:Lib.compareBytes (X[X.length-k]'px).data.toList (Y[Y.length-k]'py).data.toList=0
   ·have hnx:nm.q8 a b=nm.yB (X.reverse.drop k) (Y.reverse.drop k):=by rw[HE.out,nm.cmp_next hk1 hlx' hly' hc0]
    have b1:(Lib.compareBytes (X[X.length-k]'px).data.toList (Y[Y.length-k]'py).data.toList != 0)=false:=by rw[hc0];rfl
    have HN:=Lib.hid hnx
    clear hnx hc0
    go_wp2_with fail
    go_quiet ((go_at_call 122;exact Calls.quiet_of_same (Tryz.strings_Compare _ _ _)))
    go_wp2_with fail
    go_roundw
    case rel=>exact⟨k+1,by omega,by omega,by omega,by go_num,by rw[Nat.add_sub_cancel];exact HN.out,HH.out,Je HB.out _⟩
    case measure=>simp[intOf];omega
   ·have hnx:nm.q8 a b=Lib.compareBytes (X[X.length-k]'px).data.toList (Y[Y.length-k]'py).data.toList:=by rw[HE.out,nm.cmp_stop hk1 hlx' hly' hc0]
    have b1:(Lib.compareBytes (X[X.length-k]'px).data.toList (Y[Y.length-k]'py).data.toList != 0)=true:=by rw[bne_iff_ne];exact hc0
    have HN:=Lib.hid hnx
    clear hnx hc0
    go_wp2_with fail
    go_quiet ((go_at_call 122;exact Calls.quiet_of_same (Tryz.strings_Compare _ _ _)))
    go_wp2_with fail
    go_ret
    exact⟨qH HN.out.symm,Je HB.out _⟩
  ·have hen:nm.q8 a b=if X.length<Y.length then -1 else if Y.length<X.length then 1 else 0:=by rw[HE.out,nm.cmp_end hk1 hkx hky (by omega)]
   by_cases h1:X.length<Y.length
   ·rw[if_pos h1]at hen
    have HN:=Lib.hid hen
    clear hen
    by_cases hx1:k≤X.length
    ·have:¬k≤Y.length:=by omega
     go_wp2_with fail
     go_ret
     exact⟨qH HN.out.symm,HB.out⟩
    ·go_wp2_with fail
     go_ret
     exact⟨qH HN.out.symm,HB.out⟩
   ·rw[if_neg h1]at hen
    by_cases h2:Y.length<X.length
    ·rw[if_pos h2]at hen
     have HN:=Lib.hid hen
     clear hen
     by_cases hx1:k≤X.length
     ·have:¬k≤Y.length:=by omega
      go_wp2_with fail
      go_ret
      exact⟨qH HN.out.symm,HB.out⟩
     ·go_wp2_with fail
      go_ret
      exact⟨qH HN.out.symm,HB.out⟩
    ·rw[if_neg h2]at hen
     have HN:=Lib.hid hen
     clear hen
     by_cases hx1:k≤X.length
     ·have:¬k≤Y.length:=by omega
      go_wp2_with fail
      go_ret
      exact⟨qH HN.out.symm,HB.out⟩
     ·go_wp2_with fail
      go_ret
      exact⟨qH HN.out.symm,HB.out⟩
theorem compare_any (a b:ByteArray)(ha:a.size≤140737488355328)(hb:b.size≤140737488355328)(w:World):Calls Tryz.prog 120 #[.string a,.string b] w fun e W'=>e= .returned (.int .i64 (nm.q8 a b))∧Below w.heap.size w W':=by
 by_cases h:nm.ql a=true∧nm.ql b=true
 ·exact VE a b h.1 h.2 w
 ·exact compare_no a b ha hb h w
end Go.Proofs.YtdjjemajfphjaaaGreat
namespace Go.Proofs.YtdjjemajfphjaaaGreat.nm
def nameOf (ls:List (List UInt8)):ByteArray:=⟨(zW ls).toArray⟩
def jr (ls:List (List UInt8)):List (List UInt8):=ls.map (·.map xB)
theorem rows_nameOf {s:ByteArray}{ls:List (List UInt8)}(h:rows s=some ls):s=nameOf ls:=Yr (zX h).2.2.1
theorem Xb {ls:List (List UInt8)}(ho:QS ls)(hl:(zW ls).length≤255):rows (nameOf ls)=some ls:=rows_put ho hl
theorem ZC {s:ByteArray}{ls:List (List UInt8)}(h:rows s=some ls):(zW ls).length=s.size:=by
 rw[← (zX h).2.2.1];exact Array.length_toList
theorem rowOk_drop {ls:List (List UInt8)}(h:QS ls)(j:Nat):QS (ls.drop j):=fun l hl=>h l (List.mem_of_mem_drop hl)
theorem lowB_small {c:UInt8}(h:c.toNat<65):xB c=c:=Q8 (by omega)
theorem putL_low:∀(ls:List (List UInt8)),QS ls→(zW ls).map xB=zW (jr ls):=by
 intro ls
 induction ls with
 | nil=>intro _;rfl
 | cons l ls ih=>
   intro h
   obtain⟨h0,h1⟩:=h l (by simp)
   rw[zW,List.map_cons,List.map_append,ih (fun x hx=>h x (by simp[hx]))]
   show _=zW (l.map xB :: jr ls)
   rw[zW,List.length_map,lowB_small]
   rw[UInt8.toNat_ofNat']
   omega
theorem Qx {ls:List (List UInt8)}(h:QS ls):QS (jr ls):=fun l hl=>by
 obtain⟨x,hx,rfl⟩:=List.mem_map.1 hl
 simpa using h x hx
theorem Qs {ls:List (List UInt8)}(h:QS ls):(zW (jr ls)).length=(zW ls).length:=by rw[← putL_low ls h,List.length_map]
theorem Y3 {s:ByteArray}{ls:List (List UInt8)}(h:rows s=some ls):uh s=nameOf (jr ls):=by
 obtain⟨_,h2,h3,_⟩:=zX h
 apply Yr
 show s.data.toList.map xB=zW (jr ls)
 rw[h3,putL_low ls h2]
theorem KI {s:ByteArray}{ls:List (List UInt8)}(h:rows s=some ls):rows (uh s)=some (jr ls):=by
 obtain⟨h1,h2,h3,_⟩:=zX h
 rw[Y3 h]
 exact Xb (Qx h2) (by rw[Qs h2,ZC h];exact h1)
theorem uf {s:ByteArray}{ls:List (List UInt8)}(h:rows s=some ls):qm s=nameOf (jr ls):=by
 unfold qm
 rw[jf,h,if_pos (show(some ls).isSome=true from rfl),Y3 h]
theorem kg {s:ByteArray}{ls:List (List UInt8)}(h:rows s=some ls):rows (qm s)=some (jr ls):=by
 rw[uf h,← Y3 h,KI h]
theorem zT {s:ByteArray}(h:ql s=true):∃ls,rows s=some ls:=by
 rw[jf]at h
 exact Option.isSome_iff_exists.1 h
theorem vX {s:ByteArray}{ls:List (List UInt8)}(h:rows s=some ls):ql s=true:=by rw[jf,h];rfl
theorem jN {s:ByteArray}{ls:List (List UInt8)}(h:rows s=some ls):qJ s=ls.length:=by rw[Qb,h]
theorem XJ {a b:List (List UInt8)}(ha:QS a)(hb:QS b)(hl:(zW a).length≤255)(h:nameOf a=nameOf b):a=b:=by
 have h1:zW a=zW b:=by
  have:=congrArg (fun s:ByteArray=>s.data.toList) h
  simpa[nameOf] using this
 have h2:=Xb ha hl
 rw[h,Xb hb (by rw[← h1];exact hl)]at h2
 exact(Option.some.inj h2).symm
theorem kV {s:ByteArray}{ls:List (List UInt8)}(h:rows s=some ls){k:Int}(h0:0≤k)(h1:k≤ls.length):
 zL s k=nameOf (ls.drop (ls.length-k.toNat))∧rows (zL s k)=some (ls.drop (ls.length-k.toNat)):=by
 obtain⟨a1,a2,a3,_⟩:=zX h
 have e:zL s k=nameOf (ls.drop (ls.length-k.toNat)):=by rw[Z8,h];simp only;rw[if_pos ⟨h0,h1⟩];rfl
 refine⟨e,?_⟩
 rw[e]
 refine Xb (rowOk_drop a2 _) ?_
 have:=(putL_drop ls (ls.length-k.toNat) (by omega)).2
 have:=ZC h
 omega
theorem Jn {s:ByteArray}{ls:List (List UInt8)}(h:rows s=some ls):zL s ls.length=s:=by
 rw[(kV h (by omega) (by omega)).1,rows_nameOf h]
 simp
theorem count_tail {s:ByteArray}{ls:List (List UInt8)}(h:rows s=some ls){k:Int}(h0:0≤k)(h1:k≤ls.length):qJ (zL s k)=k:=by
 rw[jN (kV h h0 h1).2,List.length_drop];omega
theorem Vw {s:ByteArray}{ls:List (List UInt8)}(h:rows s=some ls){k:Int}(h0:1≤k)(h1:k≤ls.length):KN (zL s k)=zL s (k-1):=by
 unfold KN
 have h2:=(kV h (by omega:0≤k) h1).2
 rw[count_tail h (by omega) h1]
 have hl:(ls.drop (ls.length-k.toNat)).length=k.toNat:=by rw[List.length_drop];omega
 rw[(kV h2 (by omega) (by rw[hl];omega)).1,(kV h (by omega) (by omega)).1,List.drop_drop,hl]
 congr 2
 omega
theorem Kg {a b:ByteArray}{x y:List (List UInt8)}(ha:rows a=some x)(hb:rows b=some y):qz a b=decide (jr x=jr y):=by
 unfold qz
 rw[vX ha,vX hb,Bool.true_and,Bool.true_and,Y3 ha,Y3 hb]
 obtain⟨a1,a2,_,_⟩:=zX ha
 obtain⟨b1,b2,_,_⟩:=zX hb
 by_cases h:jr x=jr y
 ·rw[h,decide_eq_true rfl]
  exact str_eq.2 rfl
 ·rw[decide_eq_false h]
  refine str_ne (fun e=>h (XJ (Qx a2) (Qx b2) (by rw[Qs a2,ZC ha];exact a1) e))
theorem Zd {a b:ByteArray}(h:qz a b=true):ql a=true∧ql b=true:=by
 unfold qz at h
 simp only[Bool.and_eq_true]at h
 exact⟨h.1.1,h.1.2⟩
theorem lowR_drop (ls:List (List UInt8))(j:Nat):jr (ls.drop j)=(jr ls).drop j:=by unfold jr;rw[List.map_drop]
theorem QZ {a z:ByteArray}{x y:List (List UInt8)}(ha:rows a=some x)(hz:rows z=some y):qU a z=true↔y.length≤x.length∧(jr x).drop (x.length-y.length)=jr y:=by
 unfold qU
 rw[jN hz,decide_eq_true (by omega),Bool.true_and]
 by_cases hl:y.length≤x.length
 ·have h2:=(kV ha (k:=y.length) (by omega) (by omega)).2
  rw[Kg h2 hz,decide_eq_true_eq,lowR_drop]
  simp[hl]
 ·have hn:zL a (y.length:Int)=ByteArray.empty:=by
   rw[Z8,ha];simp only;rw[if_neg (by omega)]
  rw[hn]
  have:qz ByteArray.empty z=false:=rfl
  rw[this]
  simp;omega
theorem Ko {a z:ByteArray}(h:qU a z=true):ql a=true∧ql z=true:=by
 have hz:ql z=true:=by
  unfold qU at h
  simp only[Bool.and_eq_true]at h
  exact(Zd h.2).2
 refine⟨?_,hz⟩
 cases hc:ql a
 ·exfalso
  have hn:rows a=none:=by
   rw[jf]at hc
   cases hr:rows a with
   | none=>rfl
   | some x=>rw[hr]at hc;cases hc
  unfold qU at h
  simp only[Bool.and_eq_true]at h
  have h2:=(Zd h.2).1
  have:zL a (qJ z)=ByteArray.empty:=by rw[Z8,hn]
  rw[this]at h2
  cases h2
 ·rfl
theorem fold_size (s:ByteArray):(qm s).size≤255:=by
 unfold qm
 split
 ·rename_i h
  have:(uh s).size=s.size:=U1 s
  rw[this]
  exact qP h
 ·decide
theorem lowB_lowB (c:UInt8):xB (xB c)=xB c:=by
 by_cases h:65≤c.toNat∧c.toNat≤90
 ·have:=XQ h.1 h.2
  exact Q8 (by omega)
 ·rw[Q8 h,Q8 h]
theorem lowR_lowR (ls:List (List UInt8)):jr (jr ls)=jr ls:=by
 unfold jr
 rw[List.map_map]
 refine List.map_congr_left fun l _=>?_
 show(l.map xB).map xB=l.map xB
 rw[List.map_map]
 exact List.map_congr_left fun c _=>lowB_lowB c
end Go.Proofs.YtdjjemajfphjaaaGreat.nm
