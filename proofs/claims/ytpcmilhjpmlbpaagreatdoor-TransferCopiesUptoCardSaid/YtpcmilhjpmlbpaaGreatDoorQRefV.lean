import Derived.Test.YtpcmilhjpmlbpaaGreatDoorQRefB
import Derived.Test.YtpcmilhjpmlbpaaGreatDoorQRefF
set_option maxRecDepth 100000
set_option maxHeartbeats 4000000
namespace Go.Proofs.YtpcmilhjpmlbpaaGreatDoor
open Go.RowKit Go.Shelf nm od
namespace zn
theorem xJ {l:List Rec}{k j:Nat}{p:Rec→Bool}(hk:k≤l.length)(hj:j<k)(h:p (l[j]'(by omega))=true):0<((l.take k).filter p).length:=by
 have hm:l[j]'(by omega)∈l.take k:=by rw[List.mem_take_iff_getElem];exact⟨j,by omega,rfl⟩
 exact List.length_pos_of_mem (List.mem_filter.2 ⟨hm,h⟩)
theorem uw {l:List Rec}{k:Nat}{p:Rec→Bool}(h:∀j (hj:j<l.length),j<k→p l[j]=false):(l.take k).filter p= []:=by
 rw[List.filter_eq_nil_iff]
 intro r hr
 rw[List.mem_take_iff_getElem]at hr
 obtain⟨i,hi,rfl⟩:=hr
 rw[h i (by omega) (by omega)]
 simp
theorem two_at {l:List Rec}{p:Rec→Bool}{i j:Nat}(hi:i<l.length)(hj:j<l.length)(hne:i≠j)(h1:p l[i]=true)(h2:p l[j]=true):1<(l.filter p).length:=by
 have main:∀(i j:Nat) (hi:i<l.length) (hj:j<l.length),i<j→p l[i]=true→p l[j]=true→1<(l.filter p).length:=by
  intro i j hi hj hij h1 h2
  have e:l.filter p=(l.take j).filter p ++ (l.drop j).filter p:=by rw[← List.filter_append,List.take_append_drop]
  have a:=xJ (p:=p) (Nat.le_of_lt hj) hij h1
  have b:0<((l.drop j).filter p).length:=List.length_pos_of_mem (List.mem_filter.2 ⟨kR hj,h2⟩)
  rw[e,List.length_append]
  omega
 rcases Nat.lt_or_gt_of_ne hne with h | h
 ·exact main i j hi hj h h1 h2
 ·exact main j i hj hi h h2 h1
theorem one_at {l:List Rec}{p:Rec→Bool}{k:Nat}(h:∀j (hj:j<l.length),j≠k→p l[j]=false):(l.filter p).length≤1:=by
 have e:l.filter p=(l.take k).filter p ++ (l.drop k).filter p:=by rw[← List.filter_append,List.take_append_drop]
 rw[e,uw (fun j hj h'=>h j hj (by omega)),List.nil_append]
 rcases Nat.lt_or_ge k l.length with hk | hk
 ·rw[List.drop_eq_getElem_cons hk,List.filter_cons]
  have:(l.drop (k+1)).filter p= []:=by
   rw[List.filter_eq_nil_iff]
   intro r hr
   obtain⟨i,hi,rfl⟩:=List.getElem_of_mem hr
   rw[List.length_drop]at hi
   rw[List.getElem_drop,h (k+1+i) (by omega) (by omega)]
   simp
  rw[this]
  split <;> simp
 ·rw[List.drop_of_length_le hk];simp
theorem full_iff {a b:Rec}(ha:qj a.owner=true)(hb:qj b.owner=true):yu a=yu b↔a.typ=b.typ∧qF a.owner b.owner=true∧dt.zU a.typ a.data=dt.zU b.typ b.data:=by
 unfold yu
 rw[zO ha hb]
 simp only[Prod.mk.injEq]
 constructor
 ·rintro⟨h1,h2,h3⟩;exact⟨h2,h1,h3⟩
 ·rintro⟨h1,h2,h3⟩;exact⟨h2,h1,h3⟩
theorem key_iff {a b:Rec}(ha:qj a.owner=true)(hb:qj b.owner=true):zV a=zV b↔a.typ=b.typ∧qF a.owner b.owner=true:=by
 unfold zV
 rw[zO ha hb]
 simp only[Prod.mk.injEq]
 exact And.comm
theorem twice_hit {l:List Rec}{j k:Nat}(hk:k<l.length)(hj:j<k)(h:yu (l[j]'(by omega))=yu l[k]):jk l k=true:=by
 unfold jk
 rw[List.getElem?_eq_getElem hk]
 simp only[decide_eq_true_eq]
 exact xJ (Nat.le_of_lt hk) hj (by simpa using h)
theorem twice_miss {l:List Rec}{k:Nat}(hk:k<l.length)(h:∀j (hj:j<l.length),j<k→yu l[j]≠yu l[k]):jk l k=false:=by
 unfold jk
 rw[List.getElem?_eq_getElem hk]
 simp only[decide_eq_false_iff_not]
 unfold uy
 rw[uw (fun j hj h'=>by simpa using h j hj h')]
 simp
theorem VL {qf:ByteArray}{l:List Rec}{k:Nat}(hk:k<l.length):xu qf l k=YK qf (xq (l.take k)) l[k]:=by
 unfold xu
 rw[List.getElem?_eq_getElem hk]
theorem soa_other {qf:ByteArray}{l:List Rec}{k:Nat}(hk:k<l.length)(h:l[k].typ≠6):xu qf l k=false:=by
 rw[VL hk];unfold YK;simp[h]
theorem soa_hit {qf:ByteArray}{l:List Rec}{j k:Nat}(hk:k<l.length)(h:l[k].typ=6)(hj:j<k)(h2:(l[j]'(by omega)).typ=6):xu qf l k=true:=by
 rw[VL hk]
 have:=xJ (p:=fun r=>decide (r.typ=6)) (Nat.le_of_lt hk) hj (by simpa using h2)
 unfold YK
 rw[Ka]
 simp only[h,this,decide_true,Bool.true_or,Bool.and_self]
theorem soa_miss {qf:ByteArray}{l:List Rec}{k:Nat}(hk:k<l.length)(h:l[k].typ=6)(h2:∀j (hj:j<l.length),j<k→l[j].typ≠6):xu qf l k= !qF l[k].owner qf:=by
 rw[VL hk]
 unfold YK
 rw[Ka,uw (fun j hj h'=>by simpa using h2 j hj h')]
 simp[h]
theorem bad4_other {l:List Rec}{r:Rec}(h:r.typ≠5):Zy (j6 l) r=false:=by unfold Zy;simp[h]
theorem bad4_hit {l:List Rec}{j k:Nat}(hk:k<l.length)(hj:j<l.length)(hne:j≠k)(h5:l[k].typ=5)(hn:jy l)(he:qF l[j].owner l[k].owner=true)(h1:l[j].typ≠46)(h2:l[j].typ≠47):Zy (j6 l) l[k]=true:=by
 have hf:=(zO (hn _ (List.getElem_mem hj)) (hn _ (List.getElem_mem hk))).1 he
 have:=two_at (p:=fun r=>!decide (r.typ=46) && !decide (r.typ=47) && decide (qw r.owner=qw l[k].owner)) hj hk hne (by simp[h1,h2,hf]) (by simp[h5])
 unfold Zy j6
 rw[h5]
 simp only[decide_true,Bool.true_and,decide_eq_true_eq]
 omega
theorem bad4_miss {l:List Rec}{k:Nat}(hk:k<l.length)(hn:jy l)(h:∀j (hj:j<l.length),j≠k→¬(qF l[j].owner l[k].owner=true∧l[j].typ≠46∧l[j].typ≠47)):Zy (j6 l) l[k]=false:=by
 have:=one_at (l:=l) (k:=k) (p:=fun r=>!decide (r.typ=46) && !decide (r.typ=47) && decide (qw r.owner=qw l[k].owner)) (fun j hj hne=>by
  have h3:=h j hj hne
  rw[zO (hn _ (List.getElem_mem hj)) (hn _ (List.getElem_mem hk))]at h3
  rw[Bool.eq_false_iff]
  intro h4
  simp only[Bool.and_eq_true,Bool.not_eq_true',decide_eq_false_iff_not,decide_eq_true_eq]at h4
  exact h3 ⟨h4.2,h4.1.1,h4.1.2⟩)
 unfold Zy j6
 rw[Bool.eq_false_iff]
 intro h4
 simp only[Bool.and_eq_true,decide_eq_true_eq]at h4
 omega
theorem Js {a n:ByteArray}(ha:qj a=true)(hn:qj n=true):qw n∈uE (qw a)↔zx a n=true∧qF a n=false:=by
 obtain⟨x,hx⟩:=yL ha
 obtain⟨y,hy⟩:=yL hn
 have hfx:=vS hx
 have hcx:qG (qw a)=x.length:=by rw[xD hfx,Qr]
 have hup:ups 0 (qw a)=qw a :: uE (qw a):=by
  unfold ups uE
  rw[hcx,Int.toNat_natCast,Nat.sub_zero,List.range_succ_eq_map,List.map_cons,List.map_map]
  congr 1
  ·have:=YT hfx
   rw[Qr]at this
   simpa using this
  ·apply List.map_congr_left
   intro i _
   simp only[Function.comp]
   congr 1
   omega
 have hw:=ups_within hx hy (Nat.zero_le _) (Nat.zero_le _)
 rw[hup,List.mem_cons]at hw
 have hnot:qw a∉uE (qw a):=by
  intro h
  unfold uE at h
  obtain⟨i,hi,e⟩:=List.mem_map.1 h
  rw[hcx,Int.toNat_natCast,List.mem_range]at hi
  have h2:=count_tail hfx (k:=(x.length:Int)-1-i) (by omega) (by rw[Qr];omega)
  rw[hcx]at e
  rw[e,hcx]at h2
  omega
 have heq:qF a n=false↔qw n≠qw a:=by
  rw[← Bool.not_eq_true,zO ha hn]
  exact⟨fun h e=>h e.symm,fun h e=>h e.symm⟩
 rw[heq,← hw]
 constructor
 ·intro h
  refine⟨.inr h,fun e=>hnot (by rw[e]at h;exact h)⟩
 ·rintro⟨h | h,h2⟩
  ·exact absurd h h2
  ·exact h
theorem below_pos {l:List Rec}{n:ByteArray}:0<zt l n↔∃r∈l,n∈uE (qw r.owner):=by
 unfold zt
 rw[show(0:Int)<((((l.flatMap fun r=>uE (qw r.owner)).filter fun a=>decide (a=n)).length:Nat):Int)↔0<((l.flatMap fun r=>uE (qw r.owner)).filter fun a=>decide (a=n)).length by omega]
 constructor
 ·intro h
  obtain⟨a,ha⟩:=List.exists_mem_of_length_pos h
  obtain⟨h1,h2⟩:=List.mem_filter.1 ha
  obtain rfl:a=n:=by simpa using h2
  obtain⟨r,hr,h3⟩:=List.mem_flatMap.1 h1
  exact⟨r,hr,h3⟩
 ·rintro⟨r,hr,h⟩
  exact List.length_pos_of_mem (List.mem_filter.2 ⟨List.mem_flatMap.2 ⟨r,hr,h⟩,by simp⟩)
theorem bad5_other {low:ByteArray}{F:Key→List Rec}{below:ByteArray→Int}{r:Rec}(h:r.typ≠39):vo low F below r=false:=by unfold vo;simp[h]
def Un (k j:Nat)(x y:Rec):Bool:=(decide (j≠k) && qF y.owner x.owner && decide (y.typ=39)) || (!qF y.owner x.owner && zx y.owner x.owner)
theorem bad5_hit {qf:ByteArray}{l:List Rec}{j k:Nat}(hk:k<l.length)(hj:j<l.length)(h39:l[k].typ=39)(hn:jy l)(h:Un k j l[k] l[j]=true):vo (qw qf) (qE l) (zt l) l[k]=true:=by
 have nk:=hn _ (List.getElem_mem hk)
 have nj:=hn _ (List.getElem_mem hj)
 unfold Un at h
 unfold vo
 simp only[Bool.or_eq_true,Bool.and_eq_true,decide_eq_true_eq,Bool.not_eq_true']at h
 rw[h39]
 simp only[decide_true,Bool.true_and,Bool.or_eq_true,decide_eq_true_eq]
 rcases h with⟨⟨h1,h2⟩,h3⟩|⟨h1,h2⟩
 ·left;right
  have hf:=(zO nj nk).1 h2
  exact two_at hj hk h1 (by simp[zV,hf,h3]) (by simp[zV,h39])
 ·right
  exact below_pos.2 ⟨_,List.getElem_mem hj,(Js nj nk).2 ⟨h2,h1⟩⟩
theorem bad5_miss {qf:ByteArray}(hap:qj qf=true){l:List Rec}{k:Nat}(hk:k<l.length)(h39:l[k].typ=39)(hn:jy l)(h:∀j (hj:j<l.length),Un k j l[k] l[j]=false):vo (qw qf) (qE l) (zt l) l[k]=qF l[k].owner qf:=by
 have nk:=hn _ (List.getElem_mem hk)
 have h1:¬1<(qE l (qw l[k].owner,39)).length:=by
  have:=one_at (l:=l) (k:=k) (p:=fun r=>decide (zV r=(qw l[k].owner,39))) (fun j hj hne=>by
   rw[decide_eq_false_iff_not]
   intro e
   have hh:=h j hj
   have nj:=hn _ (List.getElem_mem hj)
   simp only[zV,Prod.mk.injEq]at e
   have he:=(zO nj nk).2 e.1
   unfold Un at hh
   rw[he,decide_eq_true hne,decide_eq_true e.2]at hh
   simp at hh)
  unfold qE
  omega
 have h2:¬0<zt l (qw l[k].owner):=by
  rw[below_pos]
  rintro⟨r,hr,hm⟩
  obtain⟨j,hj,rfl⟩:=List.getElem_of_mem hr
  have nj:=hn _ (List.getElem_mem hj)
  obtain⟨e1,e2⟩:=(Js nj nk).1 hm
  have hh:=h j hj
  unfold Un at hh
  rw[e1,e2]at hh
  simp at hh
 unfold vo
 rw[h39,decide_eq_false h1,decide_eq_false h2]
 simp only[decide_true,Bool.true_and,Bool.or_false]
 rw[Bool.eq_iff_iff,decide_eq_true_iff,zO nk hap]
theorem rows_head {l:List Rec}{κ:Key}{j:Nat}(hj:j<l.length)(h:zV l[j]=κ)(hn:∀i (hi:i<l.length),i<j→zV l[i]≠κ)(d:Rec):(qE l κ).headD d=l[j]:=by
 have e:qE l κ=(l.take j).filter (fun r=>decide (zV r=κ)) ++ (l.drop j).filter (fun r=>decide (zV r=κ)):=by
  unfold qE
  rw[← List.filter_append,List.take_append_drop]
 rw[e,uw (fun i hi h'=>by simpa using hn i hi h'),List.nil_append,List.drop_eq_getElem_cons hj,List.filter_cons,if_pos (by simpa using h)]
 rfl
theorem bad6_sig {F:Key→List Rec}{r:Rec}(h:r.typ=46):xX F r=false:=by unfold xX;simp[h]
theorem bad6_hit {l:List Rec}{j k:Nat}(hk:k<l.length)(hj:j<l.length)(h46:l[k].typ≠46)(h:zV l[j]=zV l[k])(hn:∀i (hi:i<l.length),i<j→zV l[i]≠zV l[k]):xX (qE l) l[k]=decide (l[j].ttl≠l[k].ttl):=by
 unfold xX
 rw[rows_head hj h hn]
 simp only[h46,decide_false,Bool.not_false,Bool.true_and]
 rw[Bool.eq_iff_iff]
 simp only[Bool.not_eq_true',decide_eq_false_iff_not,decide_eq_true_eq]
 exact⟨fun h e=>h e.symm,fun h e=>h e.symm⟩
theorem bad6_miss {l:List Rec}{k:Nat}(hk:k<l.length)(hn:∀i (hi:i<l.length),i<k→zV l[i]≠zV l[k]):xX (qE l) l[k]=false:=by
 by_cases h:l[k].typ=46
 ·exact bad6_sig h
 ·rw[bad6_hit hk hk h rfl hn];simp
end zn
end Go.Proofs.YtpcmilhjpmlbpaaGreatDoor
namespace Go.Proofs.YtpcmilhjpmlbpaaGreatDoor
open Go.RowKit Go.Shelf nm od
namespace zn
def vW (a b:Rec):Bool:=decide (a.typ=b.typ) && qF a.owner b.owner && ((dt.zU a.typ a.data).toList == (dt.zU b.typ b.data).toList)
def hasB (l:List Rec)(n:ByteArray)(t:Int):Bool:=l.any fun r=>decide (r.typ=t) && qF r.owner n
end zn
theorem VY (x y:Rec)(hx:x.owner.size≤1099511627776)(hy:y.owner.size≤1099511627776)(w:World):
 Calls Tryz.prog 132 #[yA x,yA y] w fun e w'=>e= .returned (.bool (zn.vW x y))∧Below w.heap.size w w':=by
 have hB2:=Lib.hid (((Below.refl _ w).alloc (Nat.le_refl _) (.cells (recC x).toArray 80)).alloc (by simp) (.cells (recC y).toArray 80))
 have cx:=fun j v h=>qp (.cells (recC y).toArray 80) (qW w x 80 j v h)
 have cy:=fun j v h=>qW (w.alloc (.cells (recC x).toArray 80)) y 80 j v h
 simp only[World.size_alloc]at cy
 obtain⟨w2,hw2⟩:∃W,W=(w.alloc (.cells (recC x).toArray 80)).alloc (.cells (recC y).toArray 80):=⟨_,rfl⟩
 rw[← hw2]at hB2 cx cy
 have e0:=qh (cx 0 _ rfl)
 have e1:=qh (cx 1 _ rfl)
 have e2:=qh (cx 4 _ rfl)
 have e3:=qh (cy 0 _ rfl)
 have e4:=qh (cy 1 _ rfl)
 have e5:=qh (cy 4 _ rfl)
 have CE:Hid (∀g,Calls Tryz.prog 55 #[.string x.owner,.string y.owner] (gw w2 g) fun e w''=>e= .returned (.bool (qF x.owner y.owner))∧∃g',w''=gw w2 g'):=Lib.hid fun g=>qU (yn _ _ hx hy _)
 have CP:Hid (∀g,Calls Tryz.prog 175 #[.int .i64 x.typ,.string x.data] (gw w2 g) fun e w''=>e= .returned (.string (dt.zU x.typ x.data))∧∃g',w''=gw w2 g'):=Lib.hid fun g=>qU (ZJ _ _ _)
 have CQ:Hid (∀g,Calls Tryz.prog 175 #[.int .i64 y.typ,.string y.data] (gw w2 g) fun e w''=>e= .returned (.string (dt.zU y.typ y.data))∧∃g',w''=gw w2 g'):=Lib.hid fun g=>qU (ZJ _ _ _)
 have HW2:=Lib.hid hw2
 clear hw2
 clear cx cy
 by_cases ht:x.typ=y.typ
 ·have bt:(x.typ == y.typ)=true:=by rw[beq_iff_eq];exact ht
  cases he:qF x.owner y.owner
  ·have hr:zn.vW x y=false:=by unfold zn.vW;rw[he,Bool.and_false,Bool.false_and]
   rw[he]at CE
   have HT:=Lib.hid ht;have HE:=Lib.hid he;have HR:=Lib.hid hr
   clear ht he hr
   go_enter Tryz.func132,Tryz.ntmps132
   go_wp2_with fail
   rw[← HW2.out]
   refine ql (by kernel_rfl) (by kernel_rfl) ?_
   repeat (with_reducible refine wpQuiet_step (fun K hK=>?_);go_simp;(try simp only[undef]);first | (with_reducible refine hK _ ?_;clear hK K) | (apply Exists.intro;refine⟨fun _=>?_,hK _ ?_⟩;(first | (go_at_call 55;with_reducible exact CE.out _) | (go_at_call 175;first | with_reducible exact CP.out _ | with_reducible exact CQ.out _));clear hK K) | (with_reducible refine⟨fun _ h=>(by cases h),?_⟩;with_reducible refine hK _ ?_;clear hK K))
   refine wpQuiet_nil ?_
   (try simp only[show Value.tuple #[]=undef from rfl])
   intro W hW
   have hBW:Below w2.heap.size w2 W:=by obtain⟨g,rfl⟩:=hW;exact qC _ g
   clear hW
   go_wp2_with fail
   go_ret
   exact⟨qI HR.out.symm,hB2.out.trans (hBW.mono hB2.out.size)⟩
  ·have hr:zn.vW x y=((dt.zU x.typ x.data).toList == (dt.zU y.typ y.data).toList):=by unfold zn.vW;rw[he,decide_eq_true ht];rfl
   rw[he]at CE
   have HT:=Lib.hid ht;have HE:=Lib.hid he;have HR:=Lib.hid hr
   clear ht he hr
   go_enter Tryz.func132,Tryz.ntmps132
   go_wp2_with fail
   rw[← HW2.out]
   refine ql (by kernel_rfl) (by kernel_rfl) ?_
   repeat (with_reducible refine wpQuiet_step (fun K hK=>?_);go_simp;(try simp only[undef]);first | (with_reducible refine hK _ ?_;clear hK K) | (apply Exists.intro;refine⟨fun _=>?_,hK _ ?_⟩;(first | (go_at_call 55;with_reducible exact CE.out _) | (go_at_call 175;first | with_reducible exact CP.out _ | with_reducible exact CQ.out _));clear hK K) | (with_reducible refine⟨fun _ h=>(by cases h),?_⟩;with_reducible refine hK _ ?_;clear hK K))
   refine wpQuiet_nil ?_
   (try simp only[show Value.tuple #[]=undef from rfl])
   intro W hW
   have hBW:Below w2.heap.size w2 W:=by obtain⟨g,rfl⟩:=hW;exact qC _ g
   clear hW
   go_wp2_with fail
   go_ret
   exact⟨qI HR.out.symm,hB2.out.trans (hBW.mono hB2.out.size)⟩
 ·have bt:(x.typ == y.typ)=false:=by rw[beq_eq_false_iff_ne];exact ht
  have hr:zn.vW x y=false:=by unfold zn.vW;rw[decide_eq_false ht];rfl
  have HT:=Lib.hid ht;have HR:=Lib.hid hr
  clear ht hr
  go_enter Tryz.func132,Tryz.ntmps132
  go_wp2_with fail
  rw[← HW2.out]
  refine ql (by kernel_rfl) (by kernel_rfl) ?_
  repeat (with_reducible refine wpQuiet_step (fun K hK=>?_);go_simp;(try simp only[undef]);first | (with_reducible refine hK _ ?_;clear hK K) | (apply Exists.intro;refine⟨fun _=>?_,hK _ ?_⟩;(first | (go_at_call 55;with_reducible exact CE.out _) | (go_at_call 175;first | with_reducible exact CP.out _ | with_reducible exact CQ.out _));clear hK K) | (with_reducible refine⟨fun _ h=>(by cases h),?_⟩;with_reducible refine hK _ ?_;clear hK K))
  refine wpQuiet_nil ?_
  (try simp only[show Value.tuple #[]=undef from rfl])
  intro W hW
  have hBW:Below w2.heap.size w2 W:=by obtain⟨g,rfl⟩:=hW;exact qC _ g
  clear hW
  go_wp2_with fail
  go_ret
  exact⟨qI HR.out.symm,hB2.out.trans (hBW.mono hB2.out.size)⟩
theorem rhas_any (l:List Rec)(hl:l.length≤1000000)(hsz:∀r∈l,r.owner.size≤1099511627776)(n:ByteArray)(hn:n.size≤1099511627776)(t:Int)(v:Value)(w:World)(hrv:qz w v l):
 Calls Tryz.prog 82 #[v,.string n,.int .i64 t] w fun e w'=>e= .returned (.bool (zn.hasB l n t))∧Below w.heap.size w w':=by
 obtain⟨a,cap,rfl,hcap,hr⟩:=hrv
 have HR:=Lib.hid hr;have HSZ:=Lib.hid hsz
 clear hr hsz
 go_enter Tryz.func82,Tryz.ntmps82
 go_wp2_with fail
 go_loopw [11,8] (fun kv _ wr=>∃k:Nat,k≤l.length∧kv= .int .i64 (k:Int)∧(l.take k).any (fun r=>decide (r.typ=t) && qF r.owner n)=false∧Below w.heap.size w wr) (fun kv _ _=>l.length-(intOf kv).toNat)
 case atStart=>exact⟨0,Nat.zero_le _,rfl,rfl,Below.refl _ _⟩
 case round=>
  obtain⟨k,hk,rfl,hno,hB⟩:=hrel
  have hsr:=hB.size
  by_cases hlt:k<l.length
  ·obtain⟨b,off,rfl,hb,hra⟩:=HR.out k hlt
   obtain⟨c0,c1,c2,c3,c4⟩:=hra.keep (hB.block b hb)
   have htk:(l.take (k+1)).any (fun r=>decide (r.typ=t) && qF r.owner n)=(decide (l[k].typ=t) && qF l[k].owner n):=by
    rw[List.take_succ_eq_append_getElem hlt,List.any_append,hno]
    simp
   have hso:=HSZ.out l[k] (List.getElem_mem hlt)
   have d0:=qW wr l[k] 80 0 _ rfl
   have d1:=qW wr l[k] 80 1 _ rfl
   have HBA:=Lib.hid (hB.alloc hsr (.cells (recC l[k]).toArray 80))
   by_cases ht:l[k].typ=t
   ·have bt:(l[k].typ == t)=true:=by rw[beq_iff_eq];exact ht
    cases he:qF l[k].owner n
    ·rw[he,Bool.and_false]at htk
     have HNO:=Lib.hid hno;have HB:=Lib.hid hB;have HTK:=Lib.hid htk;have HT:=Lib.hid ht;have HE:=Lib.hid he
     clear hno hB htk ht he
     go_wp2_with fail
     refine(yn _ _ hso hn _).mono ?_
     rintro e w2 ⟨rfl,hB2⟩
     rw[HE.out]
     have HB2:=Lib.hid (HBA.out.trans (hB2.mono HBA.out.size))
     clear hB2
     go_wp2_with fail
     go_roundw
     case rel=>exact⟨k+1,by omega,by go_num,HTK.out,HB2.out⟩
     case measure=>simp[intOf];omega
    ·have hres:zn.hasB l n t=true:=by
      unfold zn.hasB
      rw[List.any_eq_true]
      exact⟨l[k],List.getElem_mem hlt,by rw[decide_eq_true ht,he];rfl⟩
     have HNO:=Lib.hid hno;have HB:=Lib.hid hB;have HTK:=Lib.hid htk;have HT:=Lib.hid ht;have HE:=Lib.hid he;have zA:=Lib.hid hres
     clear hno hB htk ht he hres
     go_wp2_with fail
     refine(yn _ _ hso hn _).mono ?_
     rintro e w2 ⟨rfl,hB2⟩
     rw[HE.out]
     have HB2:=Lib.hid (HBA.out.trans (hB2.mono HBA.out.size))
     clear hB2
     go_wp2_with fail
     go_ret
     exact⟨qI zA.out.symm,HB2.out⟩
   ·have bt:(l[k].typ == t)=false:=by rw[beq_eq_false_iff_ne];exact ht
    rw[decide_eq_false ht,Bool.false_and]at htk
    have HNO:=Lib.hid hno;have HB:=Lib.hid hB;have HTK:=Lib.hid htk;have HT:=Lib.hid ht
    clear hno hB htk ht
    go_wp2_with fail
    go_roundw
    case rel=>exact⟨k+1,by omega,by go_num,HTK.out,HBA.out⟩
    case measure=>simp[intOf];omega
  ·obtain rfl:k=l.length:=by omega
   have hres:zn.hasB l n t=false:=by rw[List.take_length]at hno;exact hno
   have HNO:=Lib.hid hno;have HB:=Lib.hid hB;have zA:=Lib.hid hres
   clear hno hB hres
   go_wp2_with fail
   go_ret
   exact⟨qI zA.out.symm,HB.out⟩
end Go.Proofs.YtpcmilhjpmlbpaaGreatDoor
namespace Go.Proofs.YtpcmilhjpmlbpaaGreatDoor
open Go.RowKit Go.Shelf nm od
namespace zn
theorem X6 {a b:Rec}(ha:qj a.owner=true)(hb:qj b.owner=true):vW a b=true↔yu a=yu b:=by
 rw[full_iff ha hb]
 unfold vW
 simp only[Bool.and_eq_true,decide_eq_true_eq,and_assoc,str_eq]
end zn
theorem zw (w w1:World)(r:Rec)(h:w1=w.alloc (.cells (recC r).toArray 80)):
 Below w.heap.size w w1∧w1.heap.size=w.heap.size+1∧Z9 w1 w.heap.size 0 r:=by
 subst h
 exact⟨(Below.refl _ w).alloc (Nat.le_refl _) _,by simp,qW w r _ 0 _ rfl,qW w r _ 1 _ rfl,qW w r _ 2 _ rfl,qW w r _ 3 _ rfl,qW w r _ 4 _ rfl⟩
theorem qN {w:World}{b off cap n:Nat}{l:List Rec}(h:qz w (.slice (some ⟨b,off,none⟩) n cap) l){j:Nat}(hj:j<l.length):b<w.heap.size∧Z9 w b (off+j*5) l[j]:=by
 obtain⟨a,c,hv,_,hr⟩:=h
 obtain⟨b',off',he,hl,ha⟩:=hr j hj
 simp only[Value.slice.injEq]at hv
 rw[← hv.1]at he
 simp only[Option.some.injEq,Addr.mk.injEq,and_true]at he
 obtain⟨rfl,rfl⟩:=he
 exact⟨hl,ha⟩
theorem kV {w:World}{v:Value}{l:List Rec}{k:Nat}(h:qz w v l)(hk:k<l.length):∃b off cap,v= .slice (some ⟨b,off,none⟩) l.length cap∧l.length≤cap:=by
 obtain⟨a,c,rfl,hc,hr⟩:=h
 obtain⟨b,off,rfl,_⟩:=hr k hk
 exact⟨b,off,c,rfl,hc⟩
theorem rbreaks_2 (qf:ByteArray)(l:List Rec)(k:Nat)(hk:k<l.length)(_hl:l.length≤2000)(hsz:∀r∈l,r.owner.size≤1099511627776)(v:Value)(w:World)(hrv:qz w v l):
 Calls Tryz.prog 81 #[.int .i64 2,.string qf,v,.int .i64 k] w fun e w'=>e= .returned (.bool (zn.jq l[k]))∧Below w.heap.size w w':=by
 obtain⟨b,off,cap,rfl,hcap⟩:=kV hrv hk
 obtain⟨hb,c0,c1,c2,c3,c4⟩:=qN hrv hk
 have hki:(k:Int)<(l.length:Int):=by omega
 obtain⟨w1,hw1⟩:∃W,W=w.alloc (.cells (recC l[k]).toArray 80):=⟨_,rfl⟩
 obtain⟨hB1,hz1,hx⟩:=zw w w1 l[k] hw1
 have xA:=hrv.below hB1
 have lt1:w.heap.size<w1.heap.size:=by omega
 have hso:=hsz l[k] (List.getElem_mem hk)
 obtain⟨x0,x1,x2,x3,x4⟩:=id hx
 have HW1:=Lib.hid hw1;have HB1:=Lib.hid hB1;have HZ1:=Lib.hid hz1;have HX:=Lib.hid hx;have HRV:=Lib.hid hrv;have Q3:=Lib.hid xA;have HSZ:=Lib.hid hsz
 clear hw1 hB1 hz1 hx hrv xA hsz
 cases hc:qj l[k].owner
 ·have hr:zn.jq l[k]=true:=by unfold zn.jq;rw[hc];rfl
  have HC:=Lib.hid hc;have HR:=Lib.hid hr
  clear hc hr
  go_enter Tryz.func81,Tryz.ntmps81
  go_wp2_with fail
  rw[← HW1.out]
  refine(zM _ hso _).mono ?_
  rintro e w2 ⟨rfl,hB2⟩
  rw[HC.out]
  have y1:=(hB2.cell (p:=⟨w.heap.size,1,none⟩) lt1).trans x1
  have y2:=(hB2.cell (p:=⟨w.heap.size,2,none⟩) lt1).trans x2
  have y3:=(hB2.cell (p:=⟨w.heap.size,3,none⟩) lt1).trans x3
  have y4:=(hB2.cell (p:=⟨w.heap.size,4,none⟩) lt1).trans x4
  have HB2:=Lib.hid (HB1.out.trans (hB2.mono HB1.out.size))
  clear hB2
  go_wp2_with fail
  go_ret
  exact⟨qI HR.out.symm,HB2.out⟩
 ·by_cases h1:l[k].cls=1
  ·have b1:(l[k].cls == 1)=true:=by rw[beq_iff_eq];exact h1
   by_cases h2:0≤l[k].ttl
   ·by_cases h3:l[k].ttl≤2147483647
    ·have hr:zn.jq l[k]= !decide (dt.yT l[k].typ l[k].data=0):=by unfold zn.jq;rw[hc,decide_eq_true h1,decide_eq_true h2,decide_eq_true h3];rfl
     by_cases h4:dt.yT l[k].typ l[k].data=0
     ·rw[decide_eq_true h4]at hr
      have HC:=Lib.hid hc;have HR:=Lib.hid hr;have H1:=Lib.hid h1;have H4:=Lib.hid h4
      clear hc hr h1 h4
      go_enter Tryz.func81,Tryz.ntmps81
      go_wp2_with fail
      rw[← HW1.out]
      refine(zM _ hso _).mono ?_
      rintro e w2 ⟨rfl,hB2⟩
      rw[HC.out]
      have y1:=(hB2.cell (p:=⟨w.heap.size,1,none⟩) lt1).trans x1
      have y2:=(hB2.cell (p:=⟨w.heap.size,2,none⟩) lt1).trans x2
      have y3:=(hB2.cell (p:=⟨w.heap.size,3,none⟩) lt1).trans x3
      have y4:=(hB2.cell (p:=⟨w.heap.size,4,none⟩) lt1).trans x4
      have HB2:=Lib.hid (HB1.out.trans (hB2.mono HB1.out.size))
      clear hB2
      go_wp2_with fail
      refine(uB _ _ _).mono ?_
      rintro e w3 ⟨rfl,hB3⟩
      rw[H4.out]
      have HB3:=Lib.hid (HB2.out.trans (hB3.mono HB2.out.size))
      clear hB3
      go_wp2_with fail
      go_ret
      exact⟨qI HR.out.symm,HB3.out⟩
     ·rw[decide_eq_false h4]at hr
      have b4:(dt.yT l[k].typ l[k].data == 0)=false:=by rw[beq_eq_false_iff_ne];exact h4
      have HC:=Lib.hid hc;have HR:=Lib.hid hr;have H1:=Lib.hid h1;have H4:=Lib.hid h4
      clear hc hr h1 h4
      go_enter Tryz.func81,Tryz.ntmps81
      go_wp2_with fail
      rw[← HW1.out]
      refine(zM _ hso _).mono ?_
      rintro e w2 ⟨rfl,hB2⟩
      rw[HC.out]
      have y1:=(hB2.cell (p:=⟨w.heap.size,1,none⟩) lt1).trans x1
      have y2:=(hB2.cell (p:=⟨w.heap.size,2,none⟩) lt1).trans x2
      have y3:=(hB2.cell (p:=⟨w.heap.size,3,none⟩) lt1).trans x3
      have y4:=(hB2.cell (p:=⟨w.heap.size,4,none⟩) lt1).trans x4
      have HB2:=Lib.hid (HB1.out.trans (hB2.mono HB1.out.size))
      clear hB2
      go_wp2_with fail
      refine(uB _ _ _).mono ?_
      rintro e w3 ⟨rfl,hB3⟩
      have HB3:=Lib.hid (HB2.out.trans (hB3.mono HB2.out.size))
      clear hB3
      go_wp2_with fail
      go_ret
      exact⟨qI HR.out.symm,HB3.out⟩
    ·have hr:zn.jq l[k]=true:=by unfold zn.jq;rw[decide_eq_false h3];simp
     have h3':2147483647<l[k].ttl:=by omega
     have HC:=Lib.hid hc;have HR:=Lib.hid hr;have H1:=Lib.hid h1
     clear hc hr h1
     go_enter Tryz.func81,Tryz.ntmps81
     go_wp2_with fail
     rw[← HW1.out]
     refine(zM _ hso _).mono ?_
     rintro e w2 ⟨rfl,hB2⟩
     rw[HC.out]
     have y1:=(hB2.cell (p:=⟨w.heap.size,1,none⟩) lt1).trans x1
     have y2:=(hB2.cell (p:=⟨w.heap.size,2,none⟩) lt1).trans x2
     have y3:=(hB2.cell (p:=⟨w.heap.size,3,none⟩) lt1).trans x3
     have y4:=(hB2.cell (p:=⟨w.heap.size,4,none⟩) lt1).trans x4
     have HB2:=Lib.hid (HB1.out.trans (hB2.mono HB1.out.size))
     clear hB2
     go_wp2_with fail
     go_ret
     exact⟨qI HR.out.symm,HB2.out⟩
   ·have hr:zn.jq l[k]=true:=by unfold zn.jq;rw[decide_eq_false h2];simp
    have h2':l[k].ttl<0:=by omega
    have HC:=Lib.hid hc;have HR:=Lib.hid hr;have H1:=Lib.hid h1
    clear hc hr h1
    go_enter Tryz.func81,Tryz.ntmps81
    go_wp2_with fail
    rw[← HW1.out]
    refine(zM _ hso _).mono ?_
    rintro e w2 ⟨rfl,hB2⟩
    rw[HC.out]
    have y1:=(hB2.cell (p:=⟨w.heap.size,1,none⟩) lt1).trans x1
    have y2:=(hB2.cell (p:=⟨w.heap.size,2,none⟩) lt1).trans x2
    have y3:=(hB2.cell (p:=⟨w.heap.size,3,none⟩) lt1).trans x3
    have y4:=(hB2.cell (p:=⟨w.heap.size,4,none⟩) lt1).trans x4
    have HB2:=Lib.hid (HB1.out.trans (hB2.mono HB1.out.size))
    clear hB2
    go_wp2_with fail
    go_ret
    exact⟨qI HR.out.symm,HB2.out⟩
  ·have b1:(l[k].cls == 1)=false:=by rw[beq_eq_false_iff_ne];exact h1
   have hr:zn.jq l[k]=true:=by unfold zn.jq;rw[decide_eq_false h1];simp
   have HC:=Lib.hid hc;have HR:=Lib.hid hr;have H1:=Lib.hid h1
   clear hc hr h1
   go_enter Tryz.func81,Tryz.ntmps81
   go_wp2_with fail
   rw[← HW1.out]
   refine(zM _ hso _).mono ?_
   rintro e w2 ⟨rfl,hB2⟩
   rw[HC.out]
   have y1:=(hB2.cell (p:=⟨w.heap.size,1,none⟩) lt1).trans x1
   have y2:=(hB2.cell (p:=⟨w.heap.size,2,none⟩) lt1).trans x2
   have y3:=(hB2.cell (p:=⟨w.heap.size,3,none⟩) lt1).trans x3
   have y4:=(hB2.cell (p:=⟨w.heap.size,4,none⟩) lt1).trans x4
   have HB2:=Lib.hid (HB1.out.trans (hB2.mono HB1.out.size))
   clear hB2
   go_wp2_with fail
   go_ret
   exact⟨qI HR.out.symm,HB2.out⟩
theorem rbreaks_3 (qf:ByteArray)(hap:qf.size≤1099511627776)(l:List Rec)(k:Nat)(hk:k<l.length)(_hl:l.length≤2000)(hsz:∀r∈l,r.owner.size≤1099511627776)(v:Value)(w:World)(hrv:qz w v l):
 Calls Tryz.prog 81 #[.int .i64 3,.string qf,v,.int .i64 k] w fun e w'=>e= .returned (.bool (!zx l[k].owner qf))∧Below w.heap.size w w':=by
 obtain⟨b,off,cap,rfl,hcap⟩:=kV hrv hk
 obtain⟨hb,c0,c1,c2,c3,c4⟩:=qN hrv hk
 have hki:(k:Int)<(l.length:Int):=by omega
 obtain⟨w1,hw1⟩:∃W,W=w.alloc (.cells (recC l[k]).toArray 80):=⟨_,rfl⟩
 obtain⟨hB1,hz1,hx⟩:=zw w w1 l[k] hw1
 have xA:=hrv.below hB1
 have lt1:w.heap.size<w1.heap.size:=by omega
 have hso:=hsz l[k] (List.getElem_mem hk)
 obtain⟨x0,x1,x2,x3,x4⟩:=id hx
 have HW1:=Lib.hid hw1;have HB1:=Lib.hid hB1;have HZ1:=Lib.hid hz1;have HX:=Lib.hid hx;have HRV:=Lib.hid hrv;have Q3:=Lib.hid xA;have HSZ:=Lib.hid hsz
 clear hw1 hB1 hz1 hx hrv xA hsz
 go_enter Tryz.func81,Tryz.ntmps81
 go_wp2_with fail
 rw[← HW1.out]
 refine(xx _ _ hso hap _).mono ?_
 rintro e w2 ⟨rfl,hB2⟩
 have HB2:=Lib.hid (HB1.out.trans (hB2.mono HB1.out.size))
 clear hB2
 go_wp2_with fail
 go_ret
 exact⟨rfl,HB2.out⟩
theorem rbreaks_4 (qf:ByteArray)(l:List Rec)(k:Nat)(hk:k<l.length)(hl:l.length≤2000)(hn:zn.jy l)(v:Value)(w:World)(hrv:qz w v l):
 Calls Tryz.prog 81 #[.int .i64 4,.string qf,v,.int .i64 k] w fun e w'=>e= .returned (.bool (zn.jk l k))∧Below w.heap.size w w':=by
 have hsz:∀r∈l,r.owner.size≤1099511627776:=fun r hr=>by have:=qQ (hn r hr);omega
 obtain⟨b,off,cap,rfl,hcap⟩:=kV hrv hk
 obtain⟨hb,c0,c1,c2,c3,c4⟩:=qN hrv hk
 have hki:(k:Int)<(l.length:Int):=by omega
 obtain⟨w1,hw1⟩:∃W,W=w.alloc (.cells (recC l[k]).toArray 80):=⟨_,rfl⟩
 obtain⟨hB1,hz1,hx⟩:=zw w w1 l[k] hw1
 have xA:=hrv.below hB1
 have lt1:w.heap.size<w1.heap.size:=by omega
 have hso:=hsz l[k] (List.getElem_mem hk)
 obtain⟨x0,x1,x2,x3,x4⟩:=id hx
 have HW1:=Lib.hid hw1;have HB1:=Lib.hid hB1;have HZ1:=Lib.hid hz1;have HX:=Lib.hid hx;have HRV:=Lib.hid hrv;have Q3:=Lib.hid xA;have HSZ:=Lib.hid hsz
 clear hw1 hB1 hz1 hx hrv xA hsz
 have hs1:=HB1.out.size
 have nk:=hn _ (List.getElem_mem hk)
 have HN:=Lib.hid hn;have NK:=Lib.hid nk
 clear hn nk
 clear c0 c1 c2 c3 c4 x0 x1 x2 x3 x4
 obtain⟨c0,c1,c2,c3,c4⟩:=(qN HRV.out hk).2
 go_enter Tryz.func81,Tryz.ntmps81
 go_wp2_with fail
 rw[← HW1.out]
 clear c0 c1 c2 c3 c4
 go_loopw [10] (fun jv wr=>∃j:Nat,j≤k∧jv= .int .i64 (j:Int)∧(∀i (hi:i<l.length),i<j→zn.yu l[i]≠zn.yu l[k])∧Below w1.heap.size w1 wr) (fun jv _=>k-(intOf jv).toNat)
 case atStart=>exact⟨0,Nat.zero_le _,rfl,(fun i hi h=>by omega),Below.refl _ _⟩
 case round=>
  obtain⟨j,hj,rfl,hno,hB⟩:=hrel
  by_cases hlt:j<k
  ·have hjl:j<l.length:=by omega
   have hji:(j:Int)<(l.length:Int):=by omega
   obtain⟨hb',ra⟩:=qN Q3.out hjl
   obtain⟨y0,y1,y2,y3,y4⟩:=ra.keep (hB.block _ hb')
   obtain⟨x0,x1,x2,x3,x4⟩:=HX.out.keep (hB.block _ lt1)
   have e0:=qh y0
   have e1:=qh y1
   have e2:=qh y2
   have e3:=qh y3
   have e4:=qh y4
   have f0:=qh x0
   have f1:=qh x1
   have f2:=qh x2
   have f3:=qh x3
   have f4:=qh x4
   have nj:=HN.out _ (List.getElem_mem hjl)
   have sj:=HSZ.out _ (List.getElem_mem hjl)
   have hsr:=hB.size
   clear x0 x1 x2 x3 x4 y0 y1 y2 y3 y4
   cases ha:zn.vW l[j] l[k]
   ·have CP:Hid (∀g,Calls Tryz.prog 132 #[yA l[j],yA l[k]] (gw wr g) fun e w''=>e= .returned (.bool false)∧∃g',w''=gw wr g'):=Lib.hid fun g=>qU (by rw[← ha];exact VY _ _ sj hso _)
    have yF:∀i (hi:i<l.length),i<j+1→zn.yu l[i]≠zn.yu l[k]:=fun i hi h=>by
     rcases Nat.lt_or_ge i j with h' | h'
     ·exact hno i hi h'
     ·obtain rfl:i=j:=by omega
      intro e
      rw[(zn.X6 nj NK.out).2 e]at ha
      cases ha
    have HNO:=Lib.hid hno;have HB:=Lib.hid hB;have kG:=Lib.hid yF;have HA:=Lib.hid ha;have NJ:=Lib.hid nj
    clear hno hB yF ha nj
    go_wp2_with fail
    refine ql (by kernel_rfl) (by kernel_rfl) ?_
    repeat (with_reducible refine wpQuiet_step (fun K hK=>?_);go_simp;(try simp only[undef]);first | (with_reducible refine hK _ ?_;clear hK K) | (apply Exists.intro;refine⟨fun _=>?_,hK _ ?_⟩;(first | (go_at_call 132;with_reducible exact CP.out _));clear hK K) | (with_reducible refine⟨fun _ h=>(by cases h),?_⟩;with_reducible refine hK _ ?_;clear hK K))
    refine wpQuiet_nil ?_
    (try simp only[show Value.tuple #[]=undef from rfl])
    intro W hW
    have hBW:Below wr.heap.size wr W:=by obtain⟨g,rfl⟩:=hW;exact qC _ g
    clear hW
    have HBW:=Lib.hid (HB.out.trans (hBW.mono hsr))
    clear hBW
    go_wp2_with fail
    go_roundw
    case rel=>exact⟨j+1,by omega,by go_num,kG.out,HBW.out⟩
    case measure=>simp[intOf];omega
   ·have CP:Hid (∀g,Calls Tryz.prog 132 #[yA l[j],yA l[k]] (gw wr g) fun e w''=>e= .returned (.bool true)∧∃g',w''=gw wr g'):=Lib.hid fun g=>qU (by rw[← ha];exact VY _ _ sj hso _)
    have hres:zn.jk l k=true:=zn.twice_hit hk hlt ((zn.X6 nj NK.out).1 ha)
    have HNO:=Lib.hid hno;have HB:=Lib.hid hB;have HA:=Lib.hid ha;have NJ:=Lib.hid nj;have zA:=Lib.hid hres
    clear hno hB ha nj hres
    go_wp2_with fail
    refine ql (by kernel_rfl) (by kernel_rfl) ?_
    repeat (with_reducible refine wpQuiet_step (fun K hK=>?_);go_simp;(try simp only[undef]);first | (with_reducible refine hK _ ?_;clear hK K) | (apply Exists.intro;refine⟨fun _=>?_,hK _ ?_⟩;(first | (go_at_call 132;with_reducible exact CP.out _));clear hK K) | (with_reducible refine⟨fun _ h=>(by cases h),?_⟩;with_reducible refine hK _ ?_;clear hK K))
    refine wpQuiet_nil ?_
    (try simp only[show Value.tuple #[]=undef from rfl])
    intro W hW
    have hBW:Below wr.heap.size wr W:=by obtain⟨g,rfl⟩:=hW;exact qC _ g
    clear hW
    have HBW:=Lib.hid (HB1.out.trans ((HB.out.trans (hBW.mono hsr)).mono hs1))
    clear hBW
    go_wp2_with fail
    go_ret
    exact⟨qI zA.out.symm,HBW.out⟩
  ·obtain rfl:j=k:=by omega
   have hres:zn.jk l j=false:=zn.twice_miss hk hno
   have HBE:=Lib.hid (HB1.out.trans (hB.mono hs1))
   have HNO:=Lib.hid hno;have HB:=Lib.hid hB;have zA:=Lib.hid hres
   clear hno hB hres
   go_wp2_with fail
   go_ret
   exact⟨qI zA.out.symm,HBE.out⟩
theorem rbreaks_5 (qf:ByteArray)(hap:qf.size≤1099511627776)(l:List Rec)(k:Nat)(hk:k<l.length)(hl:l.length≤2000)(hn:zn.jy l)(v:Value)(w:World)(hrv:qz w v l):
 Calls Tryz.prog 81 #[.int .i64 5,.string qf,v,.int .i64 k] w fun e w'=>e= .returned (.bool (zn.xu qf l k))∧Below w.heap.size w w':=by
 have hsz:∀r∈l,r.owner.size≤1099511627776:=fun r hr=>by have:=qQ (hn r hr);omega
 obtain⟨b,off,cap,rfl,hcap⟩:=kV hrv hk
 obtain⟨hb,c0,c1,c2,c3,c4⟩:=qN hrv hk
 have hki:(k:Int)<(l.length:Int):=by omega
 obtain⟨w1,hw1⟩:∃W,W=w.alloc (.cells (recC l[k]).toArray 80):=⟨_,rfl⟩
 obtain⟨hB1,hz1,hx⟩:=zw w w1 l[k] hw1
 have xA:=hrv.below hB1
 have lt1:w.heap.size<w1.heap.size:=by omega
 have hso:=hsz l[k] (List.getElem_mem hk)
 obtain⟨x0,x1,x2,x3,x4⟩:=id hx
 have HW1:=Lib.hid hw1;have HB1:=Lib.hid hB1;have HZ1:=Lib.hid hz1;have HX:=Lib.hid hx;have HRV:=Lib.hid hrv;have Q3:=Lib.hid xA;have HSZ:=Lib.hid hsz
 clear hw1 hB1 hz1 hx hrv xA hsz
 have hs1:=HB1.out.size
 by_cases h6:l[k].typ=6
 ·have b6:(l[k].typ != 6)=false:=by rw[h6];rfl
  have HN:=Lib.hid hn;have H6:=Lib.hid h6
  clear hn h6
  go_enter Tryz.func81,Tryz.ntmps81
  go_wp2_with fail
  rw[← HW1.out]
  clear c0 c1 c2 c3 c4
  go_loop [11] (fun jv=>∃j:Nat,j≤k∧jv= .int .i64 (j:Int)∧(∀i (hi:i<l.length),i<j→l[i].typ≠6)) (fun jv=>k-(intOf jv).toNat)
  case atStart=>exact⟨0,Nat.zero_le _,rfl,(fun i hi h=>by omega)⟩
  case round=>
   obtain⟨j,hj,rfl,hno⟩:=hrel
   by_cases hlt:j<k
   ·have hjl:j<l.length:=by omega
    have hji:(j:Int)<(l.length:Int):=by omega
    obtain⟨hb',y0,y1,y2,y3,y4⟩:=qN Q3.out hjl
    by_cases hj6:l[j].typ=6
    ·have bj:(l[j].typ == 6)=true:=by rw[beq_iff_eq];exact hj6
     have hres:zn.xu qf l k=true:=zn.soa_hit hk H6.out hlt hj6
     have HNO:=Lib.hid hno;have HJ6:=Lib.hid hj6;have zA:=Lib.hid hres
     clear hno hj6 hres
     go_wp2_with fail
     go_ret
     exact⟨qI zA.out.symm,HB1.out⟩
    ·have bj:(l[j].typ == 6)=false:=by rw[beq_eq_false_iff_ne];exact hj6
     have yF:∀i (hi:i<l.length),i<j+1→l[i].typ≠6:=fun i hi h=>by
      rcases Nat.lt_or_ge i j with h' | h'
      ·exact hno i hi h'
      ·obtain rfl:i=j:=by omega
       exact hj6
     have HNO:=Lib.hid hno;have HJ6:=Lib.hid hj6;have kG:=Lib.hid yF
     clear hno hj6 yF
     go_wp2_with fail
     go_round
     case rel=>exact⟨j+1,by omega,by go_num,kG.out⟩
     case measure=>simp[intOf];omega
   ·obtain rfl:j=k:=by omega
    have hres:zn.xu qf l j= !qF l[j].owner qf:=zn.soa_miss hk H6.out hno
    have HNO:=Lib.hid hno;have zA:=Lib.hid hres
    clear hno hres
    go_wp2_with fail
    refine(yn _ _ hso hap _).mono ?_
    rintro e w2 ⟨rfl,hB2⟩
    have HB2:=Lib.hid (HB1.out.trans (hB2.mono HB1.out.size))
    clear hB2
    go_wp2_with fail
    go_ret
    exact⟨qI zA.out.symm,HB2.out⟩
 ·have b6:(l[k].typ != 6)=true:=by rw[bne_iff_ne];exact h6
  have hres:zn.xu qf l k=false:=zn.soa_other hk h6
  have HN:=Lib.hid hn;have H6:=Lib.hid h6;have zA:=Lib.hid hres
  clear hn h6 hres
  go_enter Tryz.func81,Tryz.ntmps81
  go_wp2_with fail
  go_ret
  exact⟨qI zA.out.symm,by rw[← HW1.out];exact HB1.out⟩
end Go.Proofs.YtpcmilhjpmlbpaaGreatDoor
namespace Go.Proofs.YtpcmilhjpmlbpaaGreatDoor
open Go.RowKit Go.Shelf nm od
theorem rbreaks_6 (qf:ByteArray)(l:List Rec)(k:Nat)(hk:k<l.length)(_hl:l.length≤2000)(hn:zn.jy l)(v:Value)(w:World)(hrv:qz w v l):
 Calls Tryz.prog 81 #[.int .i64 6,.string qf,v,.int .i64 k] w fun e w'=>e= .returned (.bool false)∧Below w.heap.size w w':=by
 have hsz:∀r∈l,r.owner.size≤1099511627776:=fun r hr=>by have:=qQ (hn r hr);omega
 obtain⟨b,off,cap,rfl,hcap⟩:=kV hrv hk
 obtain⟨hb,c0,c1,c2,c3,c4⟩:=qN hrv hk
 have hki:(k:Int)<(l.length:Int):=by omega
 obtain⟨w1,hw1⟩:∃W,W=w.alloc (.cells (recC l[k]).toArray 80):=⟨_,rfl⟩
 obtain⟨hB1,hz1,hx⟩:=zw w w1 l[k] hw1
 have xA:=hrv.below hB1
 have lt1:w.heap.size<w1.heap.size:=by omega
 have hso:=hsz l[k] (List.getElem_mem hk)
 obtain⟨x0,x1,x2,x3,x4⟩:=id hx
 have HW1:=Lib.hid hw1;have HB1:=Lib.hid hB1;have HZ1:=Lib.hid hz1;have HX:=Lib.hid hx;have HRV:=Lib.hid hrv;have Q3:=Lib.hid xA;have HSZ:=Lib.hid hsz
 clear hw1 hB1 hz1 hx hrv xA hsz
 have hs1:=HB1.out.size
 go_enter Tryz.func81,Tryz.ntmps81
 go_wp2_with fail
 go_ret
 exact⟨rfl,by rw[← HW1.out];exact HB1.out⟩
theorem rbreaks_7 (qf:ByteArray)(l:List Rec)(k:Nat)(hk:k<l.length)(_hl:l.length≤2000)(hn:zn.jy l)(v:Value)(w:World)(hrv:qz w v l):
 Calls Tryz.prog 81 #[.int .i64 7,.string qf,v,.int .i64 k] w fun e w'=>e= .returned (.bool (zn.Qy l[k]))∧Below w.heap.size w w':=by
 have hsz:∀r∈l,r.owner.size≤1099511627776:=fun r hr=>by have:=qQ (hn r hr);omega
 obtain⟨b,off,cap,rfl,hcap⟩:=kV hrv hk
 obtain⟨hb,c0,c1,c2,c3,c4⟩:=qN hrv hk
 have hki:(k:Int)<(l.length:Int):=by omega
 obtain⟨w1,hw1⟩:∃W,W=w.alloc (.cells (recC l[k]).toArray 80):=⟨_,rfl⟩
 obtain⟨hB1,hz1,hx⟩:=zw w w1 l[k] hw1
 have xA:=hrv.below hB1
 have lt1:w.heap.size<w1.heap.size:=by omega
 have hso:=hsz l[k] (List.getElem_mem hk)
 obtain⟨x0,x1,x2,x3,x4⟩:=id hx
 have HW1:=Lib.hid hw1;have HB1:=Lib.hid hB1;have HZ1:=Lib.hid hz1;have HX:=Lib.hid hx;have HRV:=Lib.hid hrv;have Q3:=Lib.hid xA;have HSZ:=Lib.hid hsz
 clear hw1 hB1 hz1 hx hrv xA hsz
 have hs1:=HB1.out.size
 by_cases h2:l[k].typ=2
 ·have b2:(l[k].typ == 2)=true:=by rw[beq_iff_eq];exact h2
  have hr:zn.Qy l[k]=jS l[k].owner:=by unfold zn.Qy;rw[decide_eq_true h2];simp
  have H2:=Lib.hid h2;have HR:=Lib.hid hr
  clear h2 hr
  go_enter Tryz.func81,Tryz.ntmps81
  go_wp2_with fail
  rw[← HW1.out]
  refine(UI _ hso _).mono ?_
  rintro e w2 ⟨rfl,hB2⟩
  have HB2:=Lib.hid (HB1.out.trans (hB2.mono HB1.out.size))
  clear hB2
  go_wp2_with fail
  go_ret
  exact⟨qI HR.out.symm,HB2.out⟩
 ·have b2:(l[k].typ == 2)=false:=by rw[beq_eq_false_iff_ne];exact h2
  by_cases h39:l[k].typ=39
  ·have b3:(l[k].typ == 39)=true:=by rw[beq_iff_eq];exact h39
   have hr:zn.Qy l[k]=jS l[k].owner:=by unfold zn.Qy;rw[decide_eq_true h39];simp
   have H2:=Lib.hid h2;have H39:=Lib.hid h39;have HR:=Lib.hid hr
   clear h2 h39 hr
   go_enter Tryz.func81,Tryz.ntmps81
   go_wp2_with fail
   rw[← HW1.out]
   refine(UI _ hso _).mono ?_
   rintro e w2 ⟨rfl,hB2⟩
   have HB2:=Lib.hid (HB1.out.trans (hB2.mono HB1.out.size))
   clear hB2
   go_wp2_with fail
   go_ret
   exact⟨qI HR.out.symm,HB2.out⟩
  ·have b3:(l[k].typ == 39)=false:=by rw[beq_eq_false_iff_ne];exact h39
   have hr:zn.Qy l[k]=false:=by unfold zn.Qy;rw[decide_eq_false h2,decide_eq_false h39];rfl
   have H2:=Lib.hid h2;have H39:=Lib.hid h39;have HR:=Lib.hid hr
   clear h2 h39 hr
   go_enter Tryz.func81,Tryz.ntmps81
   go_wp2_with fail
   go_ret
   exact⟨qI HR.out.symm,by rw[← HW1.out];exact HB1.out⟩
theorem rbreaks_8 (qf:ByteArray)(l:List Rec)(k:Nat)(hk:k<l.length)(hl:l.length≤2000)(hn:zn.jy l)(v:Value)(w:World)(hrv:qz w v l):
 Calls Tryz.prog 81 #[.int .i64 8,.string qf,v,.int .i64 k] w fun e w'=>e= .returned (.bool (zn.Zy (zn.j6 l) l[k]))∧Below w.heap.size w w':=by
 have hsz:∀r∈l,r.owner.size≤1099511627776:=fun r hr=>by have:=qQ (hn r hr);omega
 obtain⟨b,off,cap,rfl,hcap⟩:=kV hrv hk
 obtain⟨hb,c0,c1,c2,c3,c4⟩:=qN hrv hk
 have hki:(k:Int)<(l.length:Int):=by omega
 obtain⟨w1,hw1⟩:∃W,W=w.alloc (.cells (recC l[k]).toArray 80):=⟨_,rfl⟩
 obtain⟨hB1,hz1,hx⟩:=zw w w1 l[k] hw1
 have xA:=hrv.below hB1
 have lt1:w.heap.size<w1.heap.size:=by omega
 have hso:=hsz l[k] (List.getElem_mem hk)
 obtain⟨x0,x1,x2,x3,x4⟩:=id hx
 have HW1:=Lib.hid hw1;have HB1:=Lib.hid hB1;have HZ1:=Lib.hid hz1;have HX:=Lib.hid hx;have HRV:=Lib.hid hrv;have Q3:=Lib.hid xA;have HSZ:=Lib.hid hsz
 clear hw1 hB1 hz1 hx hrv xA hsz
 have hs1:=HB1.out.size
 have HN:=Lib.hid hn
 clear hn
 go_enter Tryz.func81,Tryz.ntmps81
 go_wp2_with fail
 rw[← HW1.out]
 clear c0 c1 c2 c3 c4 x0 x1 x2 x3 x4
 go_loopw [110,12] (fun jv _ wr=>∃j:Nat,j≤l.length∧jv= .int .i64 (j:Int)∧(∀i (hi:i<l.length),i<j→i≠k→¬(l[k].typ=5∧qF l[i].owner l[k].owner=true∧l[i].typ≠46∧l[i].typ≠47))∧Below w1.heap.size w1 wr) (fun jv _ _=>l.length-(intOf jv).toNat)
 case atStart=>exact⟨0,Nat.zero_le _,rfl,(fun i hi h=>by omega),Below.refl _ _⟩
 case round=>
  obtain⟨j,hj,rfl,hno,hB⟩:=hrel
  by_cases hjl:j<l.length
  ·have hji:(j:Int)<(l.length:Int):=by omega
   obtain⟨hb',ra⟩:=qN Q3.out hjl
   obtain⟨y0,y1,y2,y3,y4⟩:=ra.keep (hB.block _ hb')
   obtain⟨x0,x1,x2,x3,x4⟩:=HX.out.keep (hB.block _ lt1)
   have e0:=qh y0
   have e1:=qh y1
   have e3:=qh y3
   have f0:=qh x0
   have f1:=qh x1
   have f3:=qh x3
   have sj:=HSZ.out _ (List.getElem_mem hjl)
   have hsr:=hB.size
   clear x0 x1 x2 x3 x4 y0 y1 y2 y3 y4
   by_cases h5:l[k].typ=5
   ·have b5:(l[k].typ == 5)=true:=by rw[beq_iff_eq];exact h5
    by_cases hjk:j=k
    ·have bj:((j:Int) != (k:Int))=false:=by rw[hjk];simp
     have yF:∀i (hi:i<l.length),i<j+1→i≠k→¬(l[k].typ=5∧qF l[i].owner l[k].owner=true∧l[i].typ≠46∧l[i].typ≠47):=fun i hi h hne=>by
      rcases Nat.lt_or_ge i j with h' | h'
      ·exact hno i hi h' hne
      ·exact absurd (show i=k by omega) hne
     have CE:Hid True:=Lib.hid trivial
     have H5:=Lib.hid h5;have HJK:=Lib.hid hjk
     clear h5 hjk
     have HNO:=Lib.hid hno;have HB:=Lib.hid hB;have kG:=Lib.hid yF
     clear hno hB yF
     go_wp2_with fail
     refine ql (by kernel_rfl) (by kernel_rfl) ?_
     repeat (with_reducible refine wpQuiet_step (fun K hK=>?_);go_simp;(try simp only[undef]);first | (with_reducible refine hK _ ?_;clear hK K) | (apply Exists.intro;refine⟨fun _=>?_,hK _ ?_⟩;(first | (fail));clear hK K) | (with_reducible refine⟨fun _ h=>(by cases h),?_⟩;with_reducible refine hK _ ?_;clear hK K))
     refine wpQuiet_nil ?_
     (try simp only[show Value.tuple #[]=undef from rfl])
     intro W hW
     have hBW:Below wr.heap.size wr W:=by obtain⟨g,rfl⟩:=hW;exact qC _ g
     clear hW
     have HBW:=Lib.hid (HB.out.trans (hBW.mono hsr))
     clear hBW
     go_wp2_with fail
     go_roundw
     case rel=>exact⟨j+1,by omega,by go_num,kG.out,HBW.out⟩
     case measure=>simp[intOf];omega
    ·have bj:((j:Int) != (k:Int))=true:=by rw[bne_iff_ne];omega
     cases he:qF l[j].owner l[k].owner
     ·have yF:∀i (hi:i<l.length),i<j+1→i≠k→¬(l[k].typ=5∧qF l[i].owner l[k].owner=true∧l[i].typ≠46∧l[i].typ≠47):=fun i hi h hne=>by
       rcases Nat.lt_or_ge i j with h' | h'
       ·exact hno i hi h' hne
       ·obtain rfl:i=j:=by omega
        rintro⟨_,h2,_⟩
        rw[he]at h2
        cases h2
      have CE:Hid (∀g,Calls Tryz.prog 55 #[.string l[j].owner,.string l[k].owner] (gw wr g) fun e w''=>e= .returned (.bool false)∧∃g',w''=gw wr g'):=Lib.hid fun g=>qU (by rw[← he];exact yn _ _ sj hso _)
      have H5:=Lib.hid h5;have HE:=Lib.hid he
      clear h5 he
      have HNO:=Lib.hid hno;have HB:=Lib.hid hB;have kG:=Lib.hid yF
      clear hno hB yF
      go_wp2_with fail
      refine ql (by kernel_rfl) (by kernel_rfl) ?_
      repeat (with_reducible refine wpQuiet_step (fun K hK=>?_);go_simp;(try simp only[undef]);first | (with_reducible refine hK _ ?_;clear hK K) | (apply Exists.intro;refine⟨fun _=>?_,hK _ ?_⟩;(first | (go_at_call 55;with_reducible exact CE.out _));clear hK K) | (with_reducible refine⟨fun _ h=>(by cases h),?_⟩;with_reducible refine hK _ ?_;clear hK K))
      refine wpQuiet_nil ?_
      (try simp only[show Value.tuple #[]=undef from rfl])
      intro W hW
      have hBW:Below wr.heap.size wr W:=by obtain⟨g,rfl⟩:=hW;exact qC _ g
      clear hW
      have HBW:=Lib.hid (HB.out.trans (hBW.mono hsr))
      clear hBW
      go_wp2_with fail
      go_roundw
      case rel=>exact⟨j+1,by omega,by go_num,kG.out,HBW.out⟩
      case measure=>simp[intOf];omega
     ·by_cases h46:l[j].typ=46
      ·have b46:(l[j].typ != 46)=false:=by rw[h46];rfl
       have yF:∀i (hi:i<l.length),i<j+1→i≠k→¬(l[k].typ=5∧qF l[i].owner l[k].owner=true∧l[i].typ≠46∧l[i].typ≠47):=fun i hi h hne=>by
        rcases Nat.lt_or_ge i j with h' | h'
        ·exact hno i hi h' hne
        ·obtain rfl:i=j:=by omega
         rintro⟨_,_,h2,_⟩
         exact h2 h46
       have CE:Hid (∀g,Calls Tryz.prog 55 #[.string l[j].owner,.string l[k].owner] (gw wr g) fun e w''=>e= .returned (.bool true)∧∃g',w''=gw wr g'):=Lib.hid fun g=>qU (by rw[← he];exact yn _ _ sj hso _)
       have H5:=Lib.hid h5;have HE:=Lib.hid he;have H46:=Lib.hid h46
       clear h5 he h46
       have HNO:=Lib.hid hno;have HB:=Lib.hid hB;have kG:=Lib.hid yF
       clear hno hB yF
       go_wp2_with fail
       refine ql (by kernel_rfl) (by kernel_rfl) ?_
       repeat (with_reducible refine wpQuiet_step (fun K hK=>?_);go_simp;(try simp only[undef]);first | (with_reducible refine hK _ ?_;clear hK K) | (apply Exists.intro;refine⟨fun _=>?_,hK _ ?_⟩;(first | (go_at_call 55;with_reducible exact CE.out _));clear hK K) | (with_reducible refine⟨fun _ h=>(by cases h),?_⟩;with_reducible refine hK _ ?_;clear hK K))
       refine wpQuiet_nil ?_
       (try simp only[show Value.tuple #[]=undef from rfl])
       intro W hW
       have hBW:Below wr.heap.size wr W:=by obtain⟨g,rfl⟩:=hW;exact qC _ g
       clear hW
       have HBW:=Lib.hid (HB.out.trans (hBW.mono hsr))
       clear hBW
       go_wp2_with fail
       go_roundw
       case rel=>exact⟨j+1,by omega,by go_num,kG.out,HBW.out⟩
       case measure=>simp[intOf];omega
      ·have b46:(l[j].typ != 46)=true:=by rw[bne_iff_ne];exact h46
       by_cases h47:l[j].typ=47
       ·have b47:(l[j].typ != 47)=false:=by rw[h47];rfl
        have yF:∀i (hi:i<l.length),i<j+1→i≠k→¬(l[k].typ=5∧qF l[i].owner l[k].owner=true∧l[i].typ≠46∧l[i].typ≠47):=fun i hi h hne=>by
         rcases Nat.lt_or_ge i j with h' | h'
         ·exact hno i hi h' hne
         ·obtain rfl:i=j:=by omega
          rintro⟨_,_,_,h2⟩
          exact h2 h47
        have CE:Hid (∀g,Calls Tryz.prog 55 #[.string l[j].owner,.string l[k].owner] (gw wr g) fun e w''=>e= .returned (.bool true)∧∃g',w''=gw wr g'):=Lib.hid fun g=>qU (by rw[← he];exact yn _ _ sj hso _)
        have H5:=Lib.hid h5;have HE:=Lib.hid he;have H46:=Lib.hid h46;have H47:=Lib.hid h47
        clear h5 he h46 h47
        have HNO:=Lib.hid hno;have HB:=Lib.hid hB;have kG:=Lib.hid yF
        clear hno hB yF
        go_wp2_with fail
        refine ql (by kernel_rfl) (by kernel_rfl) ?_
        repeat (with_reducible refine wpQuiet_step (fun K hK=>?_);go_simp;(try simp only[undef]);first | (with_reducible refine hK _ ?_;clear hK K) | (apply Exists.intro;refine⟨fun _=>?_,hK _ ?_⟩;(first | (go_at_call 55;with_reducible exact CE.out _));clear hK K) | (with_reducible refine⟨fun _ h=>(by cases h),?_⟩;with_reducible refine hK _ ?_;clear hK K))
        refine wpQuiet_nil ?_
        (try simp only[show Value.tuple #[]=undef from rfl])
        intro W hW
        have hBW:Below wr.heap.size wr W:=by obtain⟨g,rfl⟩:=hW;exact qC _ g
        clear hW
        have HBW:=Lib.hid (HB.out.trans (hBW.mono hsr))
        clear hBW
        go_wp2_with fail
        go_roundw
        case rel=>exact⟨j+1,by omega,by go_num,kG.out,HBW.out⟩
        case measure=>simp[intOf];omega
       ·have b47:(l[j].typ != 47)=true:=by rw[bne_iff_ne];exact h47
        have hres:zn.Zy (zn.j6 l) l[k]=true:=zn.bad4_hit hk hjl hjk h5 HN.out he h46 h47
        have CE:Hid (∀g,Calls Tryz.prog 55 #[.string l[j].owner,.string l[k].owner] (gw wr g) fun e w''=>e= .returned (.bool true)∧∃g',w''=gw wr g'):=Lib.hid fun g=>qU (by rw[← he];exact yn _ _ sj hso _)
        have H5:=Lib.hid h5;have HE:=Lib.hid he;have H46:=Lib.hid h46;have H47:=Lib.hid h47;have HNO:=Lib.hid hno;have HB:=Lib.hid hB;have zA:=Lib.hid hres
        clear h5 he h46 h47 hno hB hres
        go_wp2_with fail
        refine ql (by kernel_rfl) (by kernel_rfl) ?_
        repeat (with_reducible refine wpQuiet_step (fun K hK=>?_);go_simp;(try simp only[undef]);first | (with_reducible refine hK _ ?_;clear hK K) | (apply Exists.intro;refine⟨fun _=>?_,hK _ ?_⟩;(first | (go_at_call 55;with_reducible exact CE.out _));clear hK K) | (with_reducible refine⟨fun _ h=>(by cases h),?_⟩;with_reducible refine hK _ ?_;clear hK K))
        refine wpQuiet_nil ?_
        (try simp only[show Value.tuple #[]=undef from rfl])
        intro W hW
        have hBW:Below wr.heap.size wr W:=by obtain⟨g,rfl⟩:=hW;exact qC _ g
        clear hW
        have HBW:=Lib.hid (HB1.out.trans ((HB.out.trans (hBW.mono hsr)).mono hs1))
        clear hBW
        go_wp2_with fail
        go_ret
        exact⟨qI zA.out.symm,HBW.out⟩
   ·have b5:(l[k].typ == 5)=false:=by rw[beq_eq_false_iff_ne];exact h5
    have yF:∀i (hi:i<l.length),i<j+1→i≠k→¬(l[k].typ=5∧qF l[i].owner l[k].owner=true∧l[i].typ≠46∧l[i].typ≠47):=fun i hi h hne h2=>h5 h2.1
    have H5:=Lib.hid h5;have HNO:=Lib.hid hno;have HB:=Lib.hid hB;have kG:=Lib.hid yF
    clear h5 hno hB yF
    go_wp2_with fail
    refine ql (by kernel_rfl) (by kernel_rfl) ?_
    repeat (with_reducible refine wpQuiet_step (fun K hK=>?_);go_simp;(try simp only[undef]);first | (with_reducible refine hK _ ?_;clear hK K) | (apply Exists.intro;refine⟨fun _=>?_,hK _ ?_⟩;(first | (fail));clear hK K) | (with_reducible refine⟨fun _ h=>(by cases h),?_⟩;with_reducible refine hK _ ?_;clear hK K))
    refine wpQuiet_nil ?_
    (try simp only[show Value.tuple #[]=undef from rfl])
    intro W hW
    have hBW:Below wr.heap.size wr W:=by obtain⟨g,rfl⟩:=hW;exact qC _ g
    clear hW
    have HBW:=Lib.hid (HB.out.trans (hBW.mono hsr))
    clear hBW
    go_wp2_with fail
    go_roundw
    case rel=>exact⟨j+1,by omega,by go_num,kG.out,HBW.out⟩
    case measure=>simp[intOf];omega
  ·obtain rfl:j=l.length:=by omega
   have hres:zn.Zy (zn.j6 l) l[k]=false:=by
    by_cases h5:l[k].typ=5
    ·exact zn.bad4_miss hk HN.out (fun j hj hne h=>hno j hj hj hne ⟨h5,h.1,h.2.1,h.2.2⟩)
    ·exact zn.bad4_other h5
   have HBE:=Lib.hid (HB1.out.trans (hB.mono hs1))
   have HNO:=Lib.hid hno;have HB:=Lib.hid hB;have zA:=Lib.hid hres
   clear hno hB hres
   go_wp2_with fail
   go_ret
   exact⟨qI zA.out.symm,HBE.out⟩
end Go.Proofs.YtpcmilhjpmlbpaaGreatDoor
