import Derived.Test.YtpcmilhjpmlbpaaGreatDoorQRefB
set_option maxRecDepth 100000
set_option maxHeartbeats 4000000
namespace Go.Proofs.YtpcmilhjpmlbpaaGreatDoor
open Go.RowKit Go.Shelf nm od
namespace zn
theorem Qw {l:List Rec}{k j:Nat}{p:Rec→Bool}(hk:k≤l.length)(hj:j<k)(h:p (l[j]'(by omega))=true):0<((l.take k).filter p).length:=by
 have hm:l[j]'(by omega)∈l.take k:=by rw[List.mem_take_iff_getElem];exact⟨j,by omega,rfl⟩
 exact List.length_pos_of_mem (List.mem_filter.2 ⟨hm,h⟩)
theorem uX {l:List Rec}{k:Nat}{p:Rec→Bool}(h:∀j (hj:j<l.length),j<k→p l[j]=false):(l.take k).filter p= []:=by
 rw[List.filter_eq_nil_iff];intro r hr;rw[List.mem_take_iff_getElem]at hr;obtain⟨i,hi,rfl⟩:=hr;rw[h i (by omega) (by omega)];simp
theorem two_at {l:List Rec}{p:Rec→Bool}{i j:Nat}(hi:i<l.length)(hj:j<l.length)(hne:i≠j)(h1:p l[i]=true)(h2:p l[j]=true):1<(l.filter p).length:=by
 have main:∀(i j:Nat) (hi:i<l.length) (hj:j<l.length),i<j→p l[i]=true→p l[j]=true→1<(l.filter p).length:=by
  intro i j hi hj hij h1 h2;have e:l.filter p=(l.take j).filter p ++ (l.drop j).filter p:=by rw[← List.filter_append,List.take_append_drop]
  have a:=Qw (p:=p) (Nat.le_of_lt hj) hij h1;have b:0<((l.drop j).filter p).length:=List.length_pos_of_mem (List.mem_filter.2 ⟨uF hj,h2⟩);rw[e,List.length_append];omega
 rcases Nat.lt_or_gt_of_ne hne with h | h
 ·exact main i j hi hj h h1 h2
 ·exact main j i hj hi h h2 h1
theorem one_at {l:List Rec}{p:Rec→Bool}{k:Nat}(h:∀j (hj:j<l.length),j≠k→p l[j]=false):(l.filter p).length≤1:=by
 have e:l.filter p=(l.take k).filter p ++ (l.drop k).filter p:=by rw[← List.filter_append,List.take_append_drop]
 rw[e,uX (fun j hj h'=>h j hj (by omega)),List.nil_append];rcases Nat.lt_or_ge k l.length with hk | hk
 ·rw[List.drop_eq_getElem_cons hk,List.filter_cons];have:(l.drop (k+1)).filter p= []:=by
   rw[List.filter_eq_nil_iff];intro r hr;obtain⟨i,hi,rfl⟩:=List.getElem_of_mem hr;rw[List.length_drop]at hi;rw[List.getElem_drop,h (k+1+i) (by omega) (by omega)];simp
  rw[this]
  split <;> simp
 ·rw[List.drop_of_length_le hk];simp
theorem full_iff {a b:Rec}(ha:qo a.owner=true)(hb:qo b.owner=true):yL a=yL b↔a.typ=b.typ∧qF a.owner b.owner=true∧dt.yj a.typ a.data=dt.yj b.typ b.data:=by
 unfold yL;rw[zM ha hb];simp only[Prod.mk.injEq];constructor
 ·rintro⟨h1,h2,h3⟩;exact⟨h2,h1,h3⟩
 ·rintro⟨h1,h2,h3⟩;exact⟨h2,h1,h3⟩
theorem key_iff {a b:Rec}(ha:qo a.owner=true)(hb:qo b.owner=true):yg a=yg b↔a.typ=b.typ∧qF a.owner b.owner=true:=by
 unfold yg;rw[zM ha hb];simp only[Prod.mk.injEq];exact And.comm
theorem twice_hit {l:List Rec}{j k:Nat}(hk:k<l.length)(hj:j<k)(h:yL (l[j]'(by omega))=yL l[k]):jQ l k=true:=by
 unfold jQ;rw[List.getElem?_eq_getElem hk];simp only[decide_eq_true_eq];exact Qw (Nat.le_of_lt hk) hj (by simpa using h)
theorem twice_miss {l:List Rec}{k:Nat}(hk:k<l.length)(h:∀j (hj:j<l.length),j<k→yL l[j]≠yL l[k]):jQ l k=false:=by
 unfold jQ;rw[List.getElem?_eq_getElem hk];simp only[decide_eq_false_iff_not];unfold uY;rw[uX (fun j hj h'=>by simpa using h j hj h')];simp
theorem XU {qg:ByteArray}{l:List Rec}{k:Nat}(hk:k<l.length):Qf qg l k=Jv qg (Qe (l.take k)) l[k]:=by
 unfold Qf;rw[List.getElem?_eq_getElem hk]
theorem soa_other {qg:ByteArray}{l:List Rec}{k:Nat}(hk:k<l.length)(h:l[k].typ≠6):Qf qg l k=false:=by
 rw[XU hk];unfold Jv;simp[h]
theorem soa_hit {qg:ByteArray}{l:List Rec}{j k:Nat}(hk:k<l.length)(h:l[k].typ=6)(hj:j<k)(h2:(l[j]'(by omega)).typ=6):Qf qg l k=true:=by
 rw[XU hk];have:=Qw (p:=fun r=>decide (r.typ=6)) (Nat.le_of_lt hk) hj (by simpa using h2);unfold Jv;rw[Ud];simp only[h,this,decide_true,Bool.true_or,Bool.and_self]
theorem soa_miss {qg:ByteArray}{l:List Rec}{k:Nat}(hk:k<l.length)(h:l[k].typ=6)(h2:∀j (hj:j<l.length),j<k→l[j].typ≠6):Qf qg l k= !qF l[k].owner qg:=by
 rw[XU hk];unfold Jv;rw[Ud,uX (fun j hj h'=>by simpa using h2 j hj h')];simp[h]
theorem bad4_other {l:List Rec}{r:Rec}(h:r.typ≠5):Yt (kX l) r=false:=by unfold Yt;simp[h]
theorem bad4_hit {l:List Rec}{j k:Nat}(hk:k<l.length)(hj:j<l.length)(hne:j≠k)(h5:l[k].typ=5)(hn:jN l)(he:qF l[j].owner l[k].owner=true)(h1:l[j].typ≠46)(h2:l[j].typ≠47):Yt (kX l) l[k]=true:=by
 have hf:=(zM (hn _ (List.getElem_mem hj)) (hn _ (List.getElem_mem hk))).1 he;have:=two_at (p:=fun r=>!decide (r.typ=46) && !decide (r.typ=47) && decide (qx r.owner=qx l[k].owner)) hj hk hne (by simp[h1,h2,hf]) (by simp[h5]);unfold Yt kX;rw[h5];simp only[decide_true,Bool.true_and,decide_eq_true_eq];omega
theorem bad4_miss {l:List Rec}{k:Nat}(hk:k<l.length)(hn:jN l)(h:∀j (hj:j<l.length),j≠k→¬(qF l[j].owner l[k].owner=true∧l[j].typ≠46∧l[j].typ≠47)):Yt (kX l) l[k]=false:=by
 have:=one_at (l:=l) (k:=k) (p:=fun r=>!decide (r.typ=46) && !decide (r.typ=47) && decide (qx r.owner=qx l[k].owner)) (fun j hj hne=>by
  have h3:=h j hj hne;rw[zM (hn _ (List.getElem_mem hj)) (hn _ (List.getElem_mem hk))]at h3;rw[Bool.eq_false_iff];intro h4;simp only[Bool.and_eq_true,Bool.not_eq_true',decide_eq_false_iff_not,decide_eq_true_eq]at h4;exact h3 ⟨h4.2,h4.1.1,h4.1.2⟩)
 unfold Yt kX;rw[Bool.eq_false_iff];intro h4;simp only[Bool.and_eq_true,decide_eq_true_eq]at h4;omega
theorem Kr {a n:ByteArray}(ha:qo a=true)(hn:qo n=true):qx n∈vz (qx a)↔zB a n=true∧qF a n=false:=by
 obtain⟨x,hx⟩:=yN ha;obtain⟨y,hy⟩:=yN hn;have hfx:=vH hx;have hcx:qK (qx a)=x.length:=by rw[Qo hfx,Q6]
 have hup:ups 0 (qx a)=qx a :: vz (qx a):=by
  unfold ups vz;rw[hcx,Int.toNat_natCast,Nat.sub_zero,List.range_succ_eq_map,List.map_cons,List.map_map]
  congr 1
  ·have:=JG hfx;rw[Q6]at this
   simpa using this
  ·apply List.map_congr_left;intro i _;simp only[Function.comp]
   congr 1
   omega
 have hw:=ups_within hx hy (Nat.zero_le _) (Nat.zero_le _);rw[hup,List.mem_cons]at hw;have hnot:qx a∉vz (qx a):=by
  intro h;unfold vz at h;obtain⟨i,hi,e⟩:=List.mem_map.1 h;rw[hcx,Int.toNat_natCast,List.mem_range]at hi;have h2:=count_tail hfx (k:=(x.length:Int)-1-i) (by omega) (by rw[Q6];omega);rw[hcx]at e;rw[e,hcx]at h2;omega
 have heq:qF a n=false↔qx n≠qx a:=by
  rw[← Bool.not_eq_true,zM ha hn];exact⟨fun h e=>h e.symm,fun h e=>h e.symm⟩
 rw[heq,← hw];constructor
 ·intro h;refine⟨.inr h,fun e=>hnot (by rw[e]at h;exact h)⟩
 ·rintro⟨h | h,h2⟩
  ·exact absurd h h2
  ·exact h
theorem below_pos {l:List Rec}{n:ByteArray}:0<zx l n↔∃r∈l,n∈vz (qx r.owner):=by
 unfold zx;rw[show(0:Int)<((((l.flatMap fun r=>vz (qx r.owner)).filter fun a=>decide (a=n)).length:Nat):Int)↔0<((l.flatMap fun r=>vz (qx r.owner)).filter fun a=>decide (a=n)).length by omega];constructor
 ·intro h;obtain⟨a,ha⟩:=List.exists_mem_of_length_pos h;obtain⟨h1,h2⟩:=List.mem_filter.1 ha;obtain rfl:a=n:=by simpa using h2
  obtain⟨r,hr,h3⟩:=List.mem_flatMap.1 h1;exact⟨r,hr,h3⟩
 ·rintro⟨r,hr,h⟩;exact List.length_pos_of_mem (List.mem_filter.2 ⟨List.mem_flatMap.2 ⟨r,hr,h⟩,by simp⟩)
theorem bad5_other {low:ByteArray}{F:Key→List Rec}{below:ByteArray→Int}{r:Rec}(h:r.typ≠39):xu low F below r=false:=by unfold xu;simp[h]
def Vu (k j:Nat)(x y:Rec):Bool:=(decide (j≠k) && qF y.owner x.owner && decide (y.typ=39)) || (!qF y.owner x.owner && zB y.owner x.owner)
theorem bad5_hit {qg:ByteArray}{l:List Rec}{j k:Nat}(hk:k<l.length)(hj:j<l.length)(h39:l[k].typ=39)(hn:jN l)(h:Vu k j l[k] l[j]=true):xu (qx qg) (qI l) (zx l) l[k]=true:=by
 have nk:=hn _ (List.getElem_mem hk);have nj:=hn _ (List.getElem_mem hj);unfold Vu at h;unfold xu;simp only[Bool.or_eq_true,Bool.and_eq_true,decide_eq_true_eq,Bool.not_eq_true']at h;rw[h39];simp only[decide_true,Bool.true_and,Bool.or_eq_true,decide_eq_true_eq];rcases h with⟨⟨h1,h2⟩,h3⟩|⟨h1,h2⟩
 ·left;right;have hf:=(zM nj nk).1 h2;exact two_at hj hk h1 (by simp[yg,hf,h3]) (by simp[yg,h39])
 ·right;exact below_pos.2 ⟨_,List.getElem_mem hj,(Kr nj nk).2 ⟨h2,h1⟩⟩
theorem bad5_miss {qg:ByteArray}(hap:qo qg=true){l:List Rec}{k:Nat}(hk:k<l.length)(h39:l[k].typ=39)(hn:jN l)(h:∀j (hj:j<l.length),Vu k j l[k] l[j]=false):xu (qx qg) (qI l) (zx l) l[k]=qF l[k].owner qg:=by
 have nk:=hn _ (List.getElem_mem hk);have h1:¬1<(qI l (qx l[k].owner,39)).length:=by
  have:=one_at (l:=l) (k:=k) (p:=fun r=>decide (yg r=(qx l[k].owner,39))) (fun j hj hne=>by
   rw[decide_eq_false_iff_not];intro e;have hh:=h j hj;have nj:=hn _ (List.getElem_mem hj);simp only[yg,Prod.mk.injEq]at e;have he:=(zM nj nk).2 e.1;unfold Vu at hh;rw[he,decide_eq_true hne,decide_eq_true e.2]at hh;simp at hh)
  unfold qI;omega
 have h2:¬0<zx l (qx l[k].owner):=by
  rw[below_pos];rintro⟨r,hr,hm⟩;obtain⟨j,hj,rfl⟩:=List.getElem_of_mem hr;have nj:=hn _ (List.getElem_mem hj);obtain⟨e1,e2⟩:=(Kr nj nk).1 hm;have hh:=h j hj;unfold Vu at hh;rw[e1,e2]at hh;simp at hh
 unfold xu;rw[h39,decide_eq_false h1,decide_eq_false h2];simp only[decide_true,Bool.true_and,Bool.or_false];rw[Bool.eq_iff_iff,decide_eq_true_iff,zM nk hap]
theorem rows_head {l:List Rec}{κ:Key}{j:Nat}(hj:j<l.length)(h:yg l[j]=κ)(hn:∀i (hi:i<l.length),i<j→yg l[i]≠κ)(d:Rec):(qI l κ).headD d=l[j]:=by
 have e:qI l κ=(l.take j).filter (fun r=>decide (yg r=κ)) ++ (l.drop j).filter (fun r=>decide (yg r=κ)):=by
  unfold qI;rw[← List.filter_append,List.take_append_drop]
 rw[e,uX (fun i hi h'=>by simpa using hn i hi h'),List.nil_append,List.drop_eq_getElem_cons hj,List.filter_cons,if_pos (by simpa using h)];rfl
theorem bad6_sig {F:Key→List Rec}{r:Rec}(h:r.typ=46):QK F r=false:=by unfold QK;simp[h]
theorem bad6_hit {l:List Rec}{j k:Nat}(hk:k<l.length)(hj:j<l.length)(h46:l[k].typ≠46)(h:yg l[j]=yg l[k])(hn:∀i (hi:i<l.length),i<j→yg l[i]≠yg l[k]):QK (qI l) l[k]=decide (l[j].ttl≠l[k].ttl):=by
 unfold QK;rw[rows_head hj h hn];simp only[h46,decide_false,Bool.not_false,Bool.true_and];rw[Bool.eq_iff_iff];simp only[Bool.not_eq_true',decide_eq_false_iff_not,decide_eq_true_eq];exact⟨fun h e=>h e.symm,fun h e=>h e.symm⟩
theorem bad6_miss {l:List Rec}{k:Nat}(hk:k<l.length)(hn:∀i (hi:i<l.length),i<k→yg l[i]≠yg l[k]):QK (qI l) l[k]=false:=by
 by_cases h:l[k].typ=46
 ·exact bad6_sig h
 ·rw[bad6_hit hk hk h rfl hn];simp
end zn
namespace zn
def xU (a b:Rec):Bool:=decide (a.typ=b.typ) && qF a.owner b.owner && ((dt.yj a.typ a.data).toList == (dt.yj b.typ b.data).toList)
def hasB (l:List Rec)(n:ByteArray)(t:Int):Bool:=l.any fun r=>decide (r.typ=t) && qF r.owner n
end zn
theorem ralike_any (x y:Rec)(hx:x.owner.size≤1099511627776)(hy:y.owner.size≤1099511627776)(w:World):
 Calls Tryz.prog 132 #[ym x,ym y] w fun e w'=>e= .returned (.bool (zn.xU x y))∧Below w.heap.size w w':=by
 have hB2:=qe (((Below.refl _ w).alloc (Nat.le_refl _) (.cells (recC x).toArray 80)).alloc (by simp) (.cells (recC y).toArray 80));have cx:=fun j v h=>qw (.cells (recC y).toArray 80) (qZ w x 80 j v h);have cy:=fun j v h=>qZ (w.alloc (.cells (recC x).toArray 80)) y 80 j v h;simp only[World.size_alloc]at cy;obtain⟨w2,hw2⟩:∃W,W=(w.alloc (.cells (recC x).toArray 80)).alloc (.cells (recC y).toArray 80):=⟨_,rfl⟩;rw[← hw2]at hB2 cx cy;have e0:=qf (cx 0 _ rfl);have e1:=qf (cx 1 _ rfl);have e2:=qf (cx 4 _ rfl);have e3:=qf (cy 0 _ rfl);have e4:=qf (cy 1 _ rfl);have e5:=qf (cy 4 _ rfl);have CE:Hid (∀g,Calls Tryz.prog 55 #[.string x.owner,.string y.owner] (gw w2 g) fun e w''=>e= .returned (.bool (qF x.owner y.owner))∧∃g',w''=gw w2 g'):=qe fun g=>qV (zV _ _ hx hy _);have CP:Hid (∀g,Calls Tryz.prog 175 #[.int .i64 x.typ,.string x.data] (gw w2 g) fun e w''=>e= .returned (.string (dt.yj x.typ x.data))∧∃g',w''=gw w2 g'):=qe fun g=>qV (YD _ _ _);have CQ:Hid (∀g,Calls Tryz.prog 175 #[.int .i64 y.typ,.string y.data] (gw w2 g) fun e w''=>e= .returned (.string (dt.yj y.typ y.data))∧∃g',w''=gw w2 g'):=qe fun g=>qV (YD _ _ _);have HW2:=qe hw2;clear hw2;clear cx cy;by_cases ht:x.typ=y.typ
 ·have bt:(x.typ == y.typ)=true:=by rw[beq_iff_eq];exact ht
  cases he:qF x.owner y.owner
  ·have hr:zn.xU x y=false:=by unfold zn.xU;rw[he,Bool.and_false,Bool.false_and]
   rw[he]at CE;have HT:=qe ht;have HE:=qe he;have HR:=qe hr;clear ht he hr
   go_enter Tryz.func132,Tryz.ntmps132
   go_wp2_with fail;rw[← HW2.out];refine ql (by kernel_rfl) (by kernel_rfl) ?_
   repeat (with_reducible refine wpQuiet_step (fun K hK=>?_);go_simp;(try simp only[undef]);first | (with_reducible refine hK _ ?_;clear hK K) | (apply Exists.intro;refine⟨fun _=>?_,hK _ ?_⟩;(first | (go_at_call 55;with_reducible exact CE.out _) | (go_at_call 175;first | with_reducible exact CP.out _ | with_reducible exact CQ.out _));clear hK K) | (with_reducible refine⟨fun _ h=>(by cases h),?_⟩;with_reducible refine hK _ ?_;clear hK K))
   refine wpQuiet_nil ?_
   (try simp only[show Value.tuple #[]=undef from rfl])
   intro W hW;have hBW:Below w2.heap.size w2 W:=by obtain⟨g,rfl⟩:=hW;exact qB _ g
   clear hW;go_wp2_with fail;go_ret;exact⟨qH HR.out.symm,hB2.out.trans (hBW.mono hB2.out.size)⟩
  ·have hr:zn.xU x y=((dt.yj x.typ x.data).toList == (dt.yj y.typ y.data).toList):=by unfold zn.xU;rw[he,decide_eq_true ht];rfl
   rw[he]at CE;have HT:=qe ht;have HE:=qe he;have HR:=qe hr;clear ht he hr
   go_enter Tryz.func132,Tryz.ntmps132
   go_wp2_with fail;rw[← HW2.out];refine ql (by kernel_rfl) (by kernel_rfl) ?_
   repeat (with_reducible refine wpQuiet_step (fun K hK=>?_);go_simp;(try simp only[undef]);first | (with_reducible refine hK _ ?_;clear hK K) | (apply Exists.intro;refine⟨fun _=>?_,hK _ ?_⟩;(first | (go_at_call 55;with_reducible exact CE.out _) | (go_at_call 175;first | with_reducible exact CP.out _ | with_reducible exact CQ.out _));clear hK K) | (with_reducible refine⟨fun _ h=>(by cases h),?_⟩;with_reducible refine hK _ ?_;clear hK K))
   refine wpQuiet_nil ?_
   (try simp only[show Value.tuple #[]=undef from rfl])
   intro W hW;have hBW:Below w2.heap.size w2 W:=by obtain⟨g,rfl⟩:=hW;exact qB _ g
   clear hW;go_wp2_with fail;go_ret;exact⟨qH HR.out.symm,hB2.out.trans (hBW.mono hB2.out.size)⟩
 ·have bt:(x.typ == y.typ)=false:=by rw[beq_eq_false_iff_ne];exact ht
  have hr:zn.xU x y=false:=by unfold zn.xU;rw[decide_eq_false ht];rfl
  have HT:=qe ht;have HR:=qe hr;clear ht hr
  go_enter Tryz.func132,Tryz.ntmps132
  go_wp2_with fail;rw[← HW2.out];refine ql (by kernel_rfl) (by kernel_rfl) ?_
  repeat (with_reducible refine wpQuiet_step (fun K hK=>?_);go_simp;(try simp only[undef]);first | (with_reducible refine hK _ ?_;clear hK K) | (apply Exists.intro;refine⟨fun _=>?_,hK _ ?_⟩;(first | (go_at_call 55;with_reducible exact CE.out _) | (go_at_call 175;first | with_reducible exact CP.out _ | with_reducible exact CQ.out _));clear hK K) | (with_reducible refine⟨fun _ h=>(by cases h),?_⟩;with_reducible refine hK _ ?_;clear hK K))
  refine wpQuiet_nil ?_
  (try simp only[show Value.tuple #[]=undef from rfl])
  intro W hW;have hBW:Below w2.heap.size w2 W:=by obtain⟨g,rfl⟩:=hW;exact qB _ g
  clear hW;go_wp2_with fail;go_ret;exact⟨qH HR.out.symm,hB2.out.trans (hBW.mono hB2.out.size)⟩
theorem rhas_any (l:List Rec)(hl:l.length≤1000000)(hsz:∀r∈l,r.owner.size≤1099511627776)(n:ByteArray)(hn:n.size≤1099511627776)(t:Int)(v:Value)(w:World)(hrv:qm w v l):
 Calls Tryz.prog 82 #[v,.string n,.int .i64 t] w fun e w'=>e= .returned (.bool (zn.hasB l n t))∧Below w.heap.size w w':=by
 obtain⟨a,cap,rfl,hcap,hr⟩:=hrv;have HR:=qe hr;have HSZ:=qe hsz;clear hr hsz
 go_enter Tryz.func82,Tryz.ntmps82
 go_wp2_with fail
 go_loopw [11,8] (fun kv _ wr=>∃k:Nat,k≤l.length∧kv= .int .i64 (k:Int)∧(l.take k).any (fun r=>decide (r.typ=t) && qF r.owner n)=false∧Below w.heap.size w wr) (fun kv _ _=>l.length-(intOf kv).toNat)
 case atStart=>exact⟨0,Nat.zero_le _,rfl,rfl,Below.refl _ _⟩
 case round=>
  obtain⟨k,hk,rfl,hno,hB⟩:=hrel;have hsr:=hB.size;by_cases hlt:k<l.length
  ·obtain⟨b,off,rfl,hb,hra⟩:=HR.out k hlt;obtain⟨c0,c1,c2,c3,c4⟩:=hra.keep (hB.block b hb);have htk:(l.take (k+1)).any (fun r=>decide (r.typ=t) && qF r.owner n)=(decide (l[k].typ=t) && qF l[k].owner n):=by
    rw[List.take_succ_eq_append_getElem hlt,List.any_append,hno];simp
   have hso:=HSZ.out l[k] (List.getElem_mem hlt);have d0:=qZ wr l[k] 80 0 _ rfl;have d1:=qZ wr l[k] 80 1 _ rfl;have HBA:=qe (hB.alloc hsr (.cells (recC l[k]).toArray 80));by_cases ht:l[k].typ=t
   ·have bt:(l[k].typ == t)=true:=by rw[beq_iff_eq];exact ht
    cases he:qF l[k].owner n
    ·rw[he,Bool.and_false]at htk;have HNO:=qe hno;have HB:=qe hB;have HTK:=qe htk;have HT:=qe ht;have HE:=qe he;clear hno hB htk ht he;go_wp2_with fail;refine(zV _ _ hso hn _).mono ?_;rintro e w2 ⟨rfl,hB2⟩;rw[HE.out];have HB2:=qe (HBA.out.trans (hB2.mono HBA.out.size));clear hB2;go_wp2_with fail
     go_roundw
     case rel=>exact⟨k+1,by omega,by go_num,HTK.out,HB2.out⟩
     case measure=>simp[intOf];omega
    ·have hres:zn.hasB l n t=true:=by
      unfold zn.hasB;rw[List.any_eq_true];exact⟨l[k],List.getElem_mem hlt,by rw[decide_eq_true ht,he];rfl⟩
     have HNO:=qe hno;have HB:=qe hB;have HTK:=qe htk;have HT:=qe ht;have HE:=qe he;have zH:=qe hres;clear hno hB htk ht he hres;go_wp2_with fail;refine(zV _ _ hso hn _).mono ?_;rintro e w2 ⟨rfl,hB2⟩;rw[HE.out];have HB2:=qe (HBA.out.trans (hB2.mono HBA.out.size));clear hB2;go_wp2_with fail;go_ret;exact⟨qH zH.out.symm,HB2.out⟩
   ·have bt:(l[k].typ == t)=false:=by rw[beq_eq_false_iff_ne];exact ht
    rw[decide_eq_false ht,Bool.false_and]at htk;have HNO:=qe hno;have HB:=qe hB;have HTK:=qe htk;have HT:=qe ht;clear hno hB htk ht;go_wp2_with fail
    go_roundw
    case rel=>exact⟨k+1,by omega,by go_num,HTK.out,HBA.out⟩
    case measure=>simp[intOf];omega
  ·obtain rfl:k=l.length:=by omega
   have hres:zn.hasB l n t=false:=by rw[List.take_length]at hno;exact hno
   have HNO:=qe hno;have HB:=qe hB;have zH:=qe hres;clear hno hB hres;go_wp2_with fail;go_ret;exact⟨qH zH.out.symm,HB.out⟩
namespace zn
theorem alike_full {a b:Rec}(ha:qo a.owner=true)(hb:qo b.owner=true):xU a b=true↔yL a=yL b:=by
 rw[full_iff ha hb];unfold xU;simp only[Bool.and_eq_true,decide_eq_true_eq,and_assoc,str_eq]
end zn
theorem qY (w w1:World)(r:Rec)(h:w1=w.alloc (.cells (recC r).toArray 80)):
 Below w.heap.size w w1∧w1.heap.size=w.heap.size+1∧Qs w1 w.heap.size 0 r:=by
 subst h;exact⟨(Below.refl _ w).alloc (Nat.le_refl _) _,by simp,qZ w r _ 0 _ rfl,qZ w r _ 1 _ rfl,qZ w r _ 2 _ rfl,qZ w r _ 3 _ rfl,qZ w r _ 4 _ rfl⟩
theorem qL {w:World}{b off cap n:Nat}{l:List Rec}(h:qm w (.slice (some ⟨b,off,none⟩) n cap) l){j:Nat}(hj:j<l.length):b<w.heap.size∧Qs w b (off+j*5) l[j]:=by
 obtain⟨a,c,hv,_,hr⟩:=h;obtain⟨b',off',he,hl,ha⟩:=hr j hj;simp only[Value.slice.injEq]at hv;rw[← hv.1]at he;simp only[Option.some.injEq,Addr.mk.injEq,and_true]at he;obtain⟨rfl,rfl⟩:=he;exact⟨hl,ha⟩
theorem uI {w:World}{v:Value}{l:List Rec}{k:Nat}(h:qm w v l)(hk:k<l.length):∃b off cap,v= .slice (some ⟨b,off,none⟩) l.length cap∧l.length≤cap:=by
 obtain⟨a,c,rfl,hc,hr⟩:=h;obtain⟨b,off,rfl,_⟩:=hr k hk;exact⟨b,off,c,rfl,hc⟩
theorem rbreaks_2 (qg:ByteArray)(l:List Rec)(k:Nat)(hk:k<l.length)(_hl:l.length≤2000)(hsz:∀r∈l,r.owner.size≤1099511627776)(v:Value)(w:World)(hrv:qm w v l):
 Calls Tryz.prog 81 #[.int .i64 2,.string qg,v,.int .i64 k] w fun e w'=>e= .returned (.bool (zn.jV l[k]))∧Below w.heap.size w w':=by
 obtain⟨b,off,cap,rfl,hcap⟩:=uI hrv hk;obtain⟨hb,c0,c1,c2,c3,c4⟩:=qL hrv hk;have hki:(k:Int)<(l.length:Int):=by omega
 obtain⟨w1,hw1⟩:∃W,W=w.alloc (.cells (recC l[k]).toArray 80):=⟨_,rfl⟩;obtain⟨hB1,hz1,hx⟩:=qY w w1 l[k] hw1;have xJ:=hrv.below hB1;have lt1:w.heap.size<w1.heap.size:=by omega
 have hso:=hsz l[k] (List.getElem_mem hk);obtain⟨x0,x1,x2,x3,x4⟩:=id hx;have HW1:=qe hw1;have HB1:=qe hB1;have HZ1:=qe hz1;have HX:=qe hx;have HRV:=qe hrv;have ZU:=qe xJ;have HSZ:=qe hsz;clear hw1 hB1 hz1 hx hrv xJ hsz
 cases hc:qo l[k].owner
 ·have hr:zn.jV l[k]=true:=by unfold zn.jV;rw[hc];rfl
  have HC:=qe hc;have HR:=qe hr;clear hc hr
  go_enter Tryz.func81,Tryz.ntmps81
  go_wp2_with fail;rw[← HW1.out];refine(zA _ hso _).mono ?_;rintro e w2 ⟨rfl,hB2⟩;rw[HC.out];have y1:=(hB2.cell (p:=⟨w.heap.size,1,none⟩) lt1).trans x1;have y2:=(hB2.cell (p:=⟨w.heap.size,2,none⟩) lt1).trans x2;have y3:=(hB2.cell (p:=⟨w.heap.size,3,none⟩) lt1).trans x3;have y4:=(hB2.cell (p:=⟨w.heap.size,4,none⟩) lt1).trans x4;have HB2:=qe (HB1.out.trans (hB2.mono HB1.out.size));clear hB2;go_wp2_with fail;go_ret;exact⟨qH HR.out.symm,HB2.out⟩
 ·by_cases h1:l[k].cls=1
  ·have b1:(l[k].cls == 1)=true:=by rw[beq_iff_eq];exact h1
   by_cases h2:0≤l[k].ttl
   ·by_cases h3:l[k].ttl≤2147483647
    ·have hr:zn.jV l[k]= !decide (dt.jd l[k].typ l[k].data=0):=by unfold zn.jV;rw[hc,decide_eq_true h1,decide_eq_true h2,decide_eq_true h3];rfl
     by_cases h4:dt.jd l[k].typ l[k].data=0
     ·rw[decide_eq_true h4]at hr;have HC:=qe hc;have HR:=qe hr;have H1:=qe h1;have H4:=qe h4;clear hc hr h1 h4
      go_enter Tryz.func81,Tryz.ntmps81
      go_wp2_with fail;rw[← HW1.out];refine(zA _ hso _).mono ?_;rintro e w2 ⟨rfl,hB2⟩;rw[HC.out];have y1:=(hB2.cell (p:=⟨w.heap.size,1,none⟩) lt1).trans x1;have y2:=(hB2.cell (p:=⟨w.heap.size,2,none⟩) lt1).trans x2;have y3:=(hB2.cell (p:=⟨w.heap.size,3,none⟩) lt1).trans x3;have y4:=(hB2.cell (p:=⟨w.heap.size,4,none⟩) lt1).trans x4;have HB2:=qe (HB1.out.trans (hB2.mono HB1.out.size));clear hB2;go_wp2_with fail;refine(uu _ _ _).mono ?_;rintro e w3 ⟨rfl,hB3⟩;rw[H4.out];have HB3:=qe (HB2.out.trans (hB3.mono HB2.out.size));clear hB3;go_wp2_with fail;go_ret;exact⟨qH HR.out.symm,HB3.out⟩
     ·rw[decide_eq_false h4]at hr;have b4:(dt.jd l[k].typ l[k].data == 0)=false:=by rw[beq_eq_false_iff_ne];exact h4
      have HC:=qe hc;have HR:=qe hr;have H1:=qe h1;have H4:=qe h4;clear hc hr h1 h4
      go_enter Tryz.func81,Tryz.ntmps81
      go_wp2_with fail;rw[← HW1.out];refine(zA _ hso _).mono ?_;rintro e w2 ⟨rfl,hB2⟩;rw[HC.out];have y1:=(hB2.cell (p:=⟨w.heap.size,1,none⟩) lt1).trans x1;have y2:=(hB2.cell (p:=⟨w.heap.size,2,none⟩) lt1).trans x2;have y3:=(hB2.cell (p:=⟨w.heap.size,3,none⟩) lt1).trans x3;have y4:=(hB2.cell (p:=⟨w.heap.size,4,none⟩) lt1).trans x4;have HB2:=qe (HB1.out.trans (hB2.mono HB1.out.size));clear hB2;go_wp2_with fail;refine(uu _ _ _).mono ?_;rintro e w3 ⟨rfl,hB3⟩;have HB3:=qe (HB2.out.trans (hB3.mono HB2.out.size));clear hB3;go_wp2_with fail;go_ret;exact⟨qH HR.out.symm,HB3.out⟩
    ·have hr:zn.jV l[k]=true:=by unfold zn.jV;rw[decide_eq_false h3];simp
     have h3':2147483647<l[k].ttl:=by omega
     have HC:=qe hc;have HR:=qe hr;have H1:=qe h1;clear hc hr h1
     go_enter Tryz.func81,Tryz.ntmps81
     go_wp2_with fail;rw[← HW1.out];refine(zA _ hso _).mono ?_;rintro e w2 ⟨rfl,hB2⟩;rw[HC.out];have y1:=(hB2.cell (p:=⟨w.heap.size,1,none⟩) lt1).trans x1;have y2:=(hB2.cell (p:=⟨w.heap.size,2,none⟩) lt1).trans x2;have y3:=(hB2.cell (p:=⟨w.heap.size,3,none⟩) lt1).trans x3;have y4:=(hB2.cell (p:=⟨w.heap.size,4,none⟩) lt1).trans x4;have HB2:=qe (HB1.out.trans (hB2.mono HB1.out.size));clear hB2;go_wp2_with fail;go_ret;exact⟨qH HR.out.symm,HB2.out⟩
   ·have hr:zn.jV l[k]=true:=by unfold zn.jV;rw[decide_eq_false h2];simp
    have h2':l[k].ttl<0:=by omega
    have HC:=qe hc;have HR:=qe hr;have H1:=qe h1;clear hc hr h1
    go_enter Tryz.func81,Tryz.ntmps81
    go_wp2_with fail;rw[← HW1.out];refine(zA _ hso _).mono ?_;rintro e w2 ⟨rfl,hB2⟩;rw[HC.out];have y1:=(hB2.cell (p:=⟨w.heap.size,1,none⟩) lt1).trans x1;have y2:=(hB2.cell (p:=⟨w.heap.size,2,none⟩) lt1).trans x2;have y3:=(hB2.cell (p:=⟨w.heap.size,3,none⟩) lt1).trans x3;have y4:=(hB2.cell (p:=⟨w.heap.size,4,none⟩) lt1).trans x4;have HB2:=qe (HB1.out.trans (hB2.mono HB1.out.size));clear hB2;go_wp2_with fail;go_ret;exact⟨qH HR.out.symm,HB2.out⟩
  ·have b1:(l[k].cls == 1)=false:=by rw[beq_eq_false_iff_ne];exact h1
   have hr:zn.jV l[k]=true:=by unfold zn.jV;rw[decide_eq_false h1];simp
   have HC:=qe hc;have HR:=qe hr;have H1:=qe h1;clear hc hr h1
   go_enter Tryz.func81,Tryz.ntmps81
   go_wp2_with fail;rw[← HW1.out];refine(zA _ hso _).mono ?_;rintro e w2 ⟨rfl,hB2⟩;rw[HC.out];have y1:=(hB2.cell (p:=⟨w.heap.size,1,none⟩) lt1).trans x1;have y2:=(hB2.cell (p:=⟨w.heap.size,2,none⟩) lt1).trans x2;have y3:=(hB2.cell (p:=⟨w.heap.size,3,none⟩) lt1).trans x3;have y4:=(hB2.cell (p:=⟨w.heap.size,4,none⟩) lt1).trans x4;have HB2:=qe (HB1.out.trans (hB2.mono HB1.out.size));clear hB2;go_wp2_with fail;go_ret;exact⟨qH HR.out.symm,HB2.out⟩
theorem rbreaks_3 (qg:ByteArray)(hap:qg.size≤1099511627776)(l:List Rec)(k:Nat)(hk:k<l.length)(_hl:l.length≤2000)(hsz:∀r∈l,r.owner.size≤1099511627776)(v:Value)(w:World)(hrv:qm w v l):
 Calls Tryz.prog 81 #[.int .i64 3,.string qg,v,.int .i64 k] w fun e w'=>e= .returned (.bool (!zB l[k].owner qg))∧Below w.heap.size w w':=by
 obtain⟨b,off,cap,rfl,hcap⟩:=uI hrv hk;obtain⟨hb,c0,c1,c2,c3,c4⟩:=qL hrv hk;have hki:(k:Int)<(l.length:Int):=by omega
 obtain⟨w1,hw1⟩:∃W,W=w.alloc (.cells (recC l[k]).toArray 80):=⟨_,rfl⟩;obtain⟨hB1,hz1,hx⟩:=qY w w1 l[k] hw1;have xJ:=hrv.below hB1;have lt1:w.heap.size<w1.heap.size:=by omega
 have hso:=hsz l[k] (List.getElem_mem hk);obtain⟨x0,x1,x2,x3,x4⟩:=id hx;have HW1:=qe hw1;have HB1:=qe hB1;have HZ1:=qe hz1;have HX:=qe hx;have HRV:=qe hrv;have ZU:=qe xJ;have HSZ:=qe hsz;clear hw1 hB1 hz1 hx hrv xJ hsz
 go_enter Tryz.func81,Tryz.ntmps81
 go_wp2_with fail;rw[← HW1.out];refine(Qg _ _ hso hap _).mono ?_;rintro e w2 ⟨rfl,hB2⟩;have HB2:=qe (HB1.out.trans (hB2.mono HB1.out.size));clear hB2;go_wp2_with fail;go_ret;exact⟨rfl,HB2.out⟩
theorem rbreaks_4 (qg:ByteArray)(l:List Rec)(k:Nat)(hk:k<l.length)(hl:l.length≤2000)(hn:zn.jN l)(v:Value)(w:World)(hrv:qm w v l):
 Calls Tryz.prog 81 #[.int .i64 4,.string qg,v,.int .i64 k] w fun e w'=>e= .returned (.bool (zn.jQ l k))∧Below w.heap.size w w':=by
 have hsz:∀r∈l,r.owner.size≤1099511627776:=fun r hr=>by have:=qU (hn r hr);omega
 obtain⟨b,off,cap,rfl,hcap⟩:=uI hrv hk;obtain⟨hb,c0,c1,c2,c3,c4⟩:=qL hrv hk;have hki:(k:Int)<(l.length:Int):=by omega
 obtain⟨w1,hw1⟩:∃W,W=w.alloc (.cells (recC l[k]).toArray 80):=⟨_,rfl⟩;obtain⟨hB1,hz1,hx⟩:=qY w w1 l[k] hw1;have xJ:=hrv.below hB1;have lt1:w.heap.size<w1.heap.size:=by omega
 have hso:=hsz l[k] (List.getElem_mem hk);obtain⟨x0,x1,x2,x3,x4⟩:=id hx;have HW1:=qe hw1;have HB1:=qe hB1;have HZ1:=qe hz1;have HX:=qe hx;have HRV:=qe hrv;have ZU:=qe xJ;have HSZ:=qe hsz;clear hw1 hB1 hz1 hx hrv xJ hsz;have hs1:=HB1.out.size;have nk:=hn _ (List.getElem_mem hk);have HN:=qe hn;have NK:=qe nk;clear hn nk;clear c0 c1 c2 c3 c4 x0 x1 x2 x3 x4;obtain⟨c0,c1,c2,c3,c4⟩:=(qL HRV.out hk).2
 go_enter Tryz.func81,Tryz.ntmps81
 go_wp2_with fail;rw[← HW1.out];clear c0 c1 c2 c3 c4
 go_loopw [10] (fun jv wr=>∃j:Nat,j≤k∧jv= .int .i64 (j:Int)∧(∀i (hi:i<l.length),i<j→zn.yL l[i]≠zn.yL l[k])∧Below w1.heap.size w1 wr) (fun jv _=>k-(intOf jv).toNat)
 case atStart=>exact⟨0,Nat.zero_le _,rfl,(fun i hi h=>by omega),Below.refl _ _⟩
 case round=>
  obtain⟨j,hj,rfl,hno,hB⟩:=hrel;by_cases hlt:j<k
  ·have hjl:j<l.length:=by omega
   have hji:(j:Int)<(l.length:Int):=by omega
   obtain⟨hb',ra⟩:=qL ZU.out hjl;obtain⟨y0,y1,y2,y3,y4⟩:=ra.keep (hB.block _ hb');obtain⟨x0,x1,x2,x3,x4⟩:=HX.out.keep (hB.block _ lt1);have e0:=qf y0;have e1:=qf y1;have e2:=qf y2;have e3:=qf y3;have e4:=qf y4;have f0:=qf x0;have f1:=qf x1;have f2:=qf x2;have f3:=qf x3;have f4:=qf x4;have nj:=HN.out _ (List.getElem_mem hjl);have sj:=HSZ.out _ (List.getElem_mem hjl);have hsr:=hB.size;clear x0 x1 x2 x3 x4 y0 y1 y2 y3 y4
   cases ha:zn.xU l[j] l[k]
   ·have CP:Hid (∀g,Calls Tryz.prog 132 #[ym l[j],ym l[k]] (gw wr g) fun e w''=>e= .returned (.bool false)∧∃g',w''=gw wr g'):=qe fun g=>qV (by rw[← ha];exact ralike_any _ _ sj hso _);have yR:∀i (hi:i<l.length),i<j+1→zn.yL l[i]≠zn.yL l[k]:=fun i hi h=>by
     rcases Nat.lt_or_ge i j with h' | h'
     ·exact hno i hi h'
     ·obtain rfl:i=j:=by omega
      intro e;rw[(zn.alike_full nj NK.out).2 e]at ha
      cases ha
    have HNO:=qe hno;have HB:=qe hB;have uk:=qe yR;have HA:=qe ha;have NJ:=qe nj;clear hno hB yR ha nj;go_wp2_with fail;refine ql (by kernel_rfl) (by kernel_rfl) ?_
    repeat (with_reducible refine wpQuiet_step (fun K hK=>?_);go_simp;(try simp only[undef]);first | (with_reducible refine hK _ ?_;clear hK K) | (apply Exists.intro;refine⟨fun _=>?_,hK _ ?_⟩;(first | (go_at_call 132;with_reducible exact CP.out _));clear hK K) | (with_reducible refine⟨fun _ h=>(by cases h),?_⟩;with_reducible refine hK _ ?_;clear hK K))
    refine wpQuiet_nil ?_
    (try simp only[show Value.tuple #[]=undef from rfl])
    intro W hW;have hBW:Below wr.heap.size wr W:=by obtain⟨g,rfl⟩:=hW;exact qB _ g
    clear hW;have HBW:=qe (HB.out.trans (hBW.mono hsr));clear hBW;go_wp2_with fail
    go_roundw
    case rel=>exact⟨j+1,by omega,by go_num,uk.out,HBW.out⟩
    case measure=>simp[intOf];omega
   ·have CP:Hid (∀g,Calls Tryz.prog 132 #[ym l[j],ym l[k]] (gw wr g) fun e w''=>e= .returned (.bool true)∧∃g',w''=gw wr g'):=qe fun g=>qV (by rw[← ha];exact ralike_any _ _ sj hso _);have hres:zn.jQ l k=true:=zn.twice_hit hk hlt ((zn.alike_full nj NK.out).1 ha);have HNO:=qe hno;have HB:=qe hB;have HA:=qe ha;have NJ:=qe nj;have zH:=qe hres;clear hno hB ha nj hres;go_wp2_with fail;refine ql (by kernel_rfl) (by kernel_rfl) ?_
    repeat (with_reducible refine wpQuiet_step (fun K hK=>?_);go_simp;(try simp only[undef]);first | (with_reducible refine hK _ ?_;clear hK K) | (apply Exists.intro;refine⟨fun _=>?_,hK _ ?_⟩;(first | (go_at_call 132;with_reducible exact CP.out _));clear hK K) | (with_reducible refine⟨fun _ h=>(by cases h),?_⟩;with_reducible refine hK _ ?_;clear hK K))
    refine wpQuiet_nil ?_
    (try simp only[show Value.tuple #[]=undef from rfl])
    intro W hW;have hBW:Below wr.heap.size wr W:=by obtain⟨g,rfl⟩:=hW;exact qB _ g
    clear hW;have HBW:=qe (HB1.out.trans ((HB.out.trans (hBW.mono hsr)).mono hs1));clear hBW;go_wp2_with fail;go_ret;exact⟨qH zH.out.symm,HBW.out⟩
  ·obtain rfl:j=k:=by omega
   have hres:zn.jQ l j=false:=zn.twice_miss hk hno;have HBE:=qe (HB1.out.trans (hB.mono hs1));have HNO:=qe hno;have HB:=qe hB;have zH:=qe hres;clear hno hB hres;go_wp2_with fail;go_ret;exact⟨qH zH.out.symm,HBE.out⟩
theorem rbreaks_5 (qg:ByteArray)(hap:qg.size≤1099511627776)(l:List Rec)(k:Nat)(hk:k<l.length)(hl:l.length≤2000)(hn:zn.jN l)(v:Value)(w:World)(hrv:qm w v l):
 Calls Tryz.prog 81 #[.int .i64 5,.string qg,v,.int .i64 k] w fun e w'=>e= .returned (.bool (zn.Qf qg l k))∧Below w.heap.size w w':=by
 have hsz:∀r∈l,r.owner.size≤1099511627776:=fun r hr=>by have:=qU (hn r hr);omega
 obtain⟨b,off,cap,rfl,hcap⟩:=uI hrv hk;obtain⟨hb,c0,c1,c2,c3,c4⟩:=qL hrv hk;have hki:(k:Int)<(l.length:Int):=by omega
 obtain⟨w1,hw1⟩:∃W,W=w.alloc (.cells (recC l[k]).toArray 80):=⟨_,rfl⟩;obtain⟨hB1,hz1,hx⟩:=qY w w1 l[k] hw1;have xJ:=hrv.below hB1;have lt1:w.heap.size<w1.heap.size:=by omega
 have hso:=hsz l[k] (List.getElem_mem hk);obtain⟨x0,x1,x2,x3,x4⟩:=id hx;have HW1:=qe hw1;have HB1:=qe hB1;have HZ1:=qe hz1;have HX:=qe hx;have HRV:=qe hrv;have ZU:=qe xJ;have HSZ:=qe hsz;clear hw1 hB1 hz1 hx hrv xJ hsz;have hs1:=HB1.out.size;by_cases h6:l[k].typ=6
 ·have b6:(l[k].typ != 6)=false:=by rw[h6];rfl
  have HN:=qe hn;have H6:=qe h6;clear hn h6
  go_enter Tryz.func81,Tryz.ntmps81
  go_wp2_with fail;rw[← HW1.out];clear c0 c1 c2 c3 c4
  go_loop [11] (fun jv=>∃j:Nat,j≤k∧jv= .int .i64 (j:Int)∧(∀i (hi:i<l.length),i<j→l[i].typ≠6)) (fun jv=>k-(intOf jv).toNat)
  case atStart=>exact⟨0,Nat.zero_le _,rfl,(fun i hi h=>by omega)⟩
  case round=>
   obtain⟨j,hj,rfl,hno⟩:=hrel;by_cases hlt:j<k
   ·have hjl:j<l.length:=by omega
    have hji:(j:Int)<(l.length:Int):=by omega
    obtain⟨hb',y0,y1,y2,y3,y4⟩:=qL ZU.out hjl;by_cases hj6:l[j].typ=6
    ·have bj:(l[j].typ == 6)=true:=by rw[beq_iff_eq];exact hj6
     have hres:zn.Qf qg l k=true:=zn.soa_hit hk H6.out hlt hj6;have HNO:=qe hno;have HJ6:=qe hj6;have zH:=qe hres;clear hno hj6 hres;go_wp2_with fail;go_ret;exact⟨qH zH.out.symm,HB1.out⟩
    ·have bj:(l[j].typ == 6)=false:=by rw[beq_eq_false_iff_ne];exact hj6
     have yR:∀i (hi:i<l.length),i<j+1→l[i].typ≠6:=fun i hi h=>by
      rcases Nat.lt_or_ge i j with h' | h'
      ·exact hno i hi h'
      ·obtain rfl:i=j:=by omega
       exact hj6
     have HNO:=qe hno;have HJ6:=qe hj6;have uk:=qe yR;clear hno hj6 yR;go_wp2_with fail
     go_round
     case rel=>exact⟨j+1,by omega,by go_num,uk.out⟩
     case measure=>simp[intOf];omega
   ·obtain rfl:j=k:=by omega
    have hres:zn.Qf qg l j= !qF l[j].owner qg:=zn.soa_miss hk H6.out hno;have HNO:=qe hno;have zH:=qe hres;clear hno hres;go_wp2_with fail;refine(zV _ _ hso hap _).mono ?_;rintro e w2 ⟨rfl,hB2⟩;have HB2:=qe (HB1.out.trans (hB2.mono HB1.out.size));clear hB2;go_wp2_with fail;go_ret;exact⟨qH zH.out.symm,HB2.out⟩
 ·have b6:(l[k].typ != 6)=true:=by rw[bne_iff_ne];exact h6
  have hres:zn.Qf qg l k=false:=zn.soa_other hk h6;have HN:=qe hn;have H6:=qe h6;have zH:=qe hres;clear hn h6 hres
  go_enter Tryz.func81,Tryz.ntmps81
  go_wp2_with fail;go_ret;exact⟨qH zH.out.symm,by rw[← HW1.out];exact HB1.out⟩
theorem rbreaks_6 (qg:ByteArray)(l:List Rec)(k:Nat)(hk:k<l.length)(_hl:l.length≤2000)(hn:zn.jN l)(v:Value)(w:World)(hrv:qm w v l):
 Calls Tryz.prog 81 #[.int .i64 6,.string qg,v,.int .i64 k] w fun e w'=>e= .returned (.bool false)∧Below w.heap.size w w':=by
 have hsz:∀r∈l,r.owner.size≤1099511627776:=fun r hr=>by have:=qU (hn r hr);omega
 obtain⟨b,off,cap,rfl,hcap⟩:=uI hrv hk;obtain⟨hb,c0,c1,c2,c3,c4⟩:=qL hrv hk;have hki:(k:Int)<(l.length:Int):=by omega
 obtain⟨w1,hw1⟩:∃W,W=w.alloc (.cells (recC l[k]).toArray 80):=⟨_,rfl⟩;obtain⟨hB1,hz1,hx⟩:=qY w w1 l[k] hw1;have xJ:=hrv.below hB1;have lt1:w.heap.size<w1.heap.size:=by omega
 have hso:=hsz l[k] (List.getElem_mem hk);obtain⟨x0,x1,x2,x3,x4⟩:=id hx;have HW1:=qe hw1;have HB1:=qe hB1;have HZ1:=qe hz1;have HX:=qe hx;have HRV:=qe hrv;have ZU:=qe xJ;have HSZ:=qe hsz;clear hw1 hB1 hz1 hx hrv xJ hsz;have hs1:=HB1.out.size
 go_enter Tryz.func81,Tryz.ntmps81
 go_wp2_with fail;go_ret;exact⟨rfl,by rw[← HW1.out];exact HB1.out⟩
theorem rbreaks_7 (qg:ByteArray)(l:List Rec)(k:Nat)(hk:k<l.length)(_hl:l.length≤2000)(hn:zn.jN l)(v:Value)(w:World)(hrv:qm w v l):
 Calls Tryz.prog 81 #[.int .i64 7,.string qg,v,.int .i64 k] w fun e w'=>e= .returned (.bool (zn.Zd l[k]))∧Below w.heap.size w w':=by
 have hsz:∀r∈l,r.owner.size≤1099511627776:=fun r hr=>by have:=qU (hn r hr);omega
 obtain⟨b,off,cap,rfl,hcap⟩:=uI hrv hk;obtain⟨hb,c0,c1,c2,c3,c4⟩:=qL hrv hk;have hki:(k:Int)<(l.length:Int):=by omega
 obtain⟨w1,hw1⟩:∃W,W=w.alloc (.cells (recC l[k]).toArray 80):=⟨_,rfl⟩;obtain⟨hB1,hz1,hx⟩:=qY w w1 l[k] hw1;have xJ:=hrv.below hB1;have lt1:w.heap.size<w1.heap.size:=by omega
 have hso:=hsz l[k] (List.getElem_mem hk);obtain⟨x0,x1,x2,x3,x4⟩:=id hx;have HW1:=qe hw1;have HB1:=qe hB1;have HZ1:=qe hz1;have HX:=qe hx;have HRV:=qe hrv;have ZU:=qe xJ;have HSZ:=qe hsz;clear hw1 hB1 hz1 hx hrv xJ hsz;have hs1:=HB1.out.size;by_cases h2:l[k].typ=2
 ·have b2:(l[k].typ == 2)=true:=by rw[beq_iff_eq];exact h2
  have hr:zn.Zd l[k]=kG l[k].owner:=by unfold zn.Zd;rw[decide_eq_true h2];simp
  have H2:=qe h2;have HR:=qe hr;clear h2 hr
  go_enter Tryz.func81,Tryz.ntmps81
  go_wp2_with fail;rw[← HW1.out];refine(VQ _ hso _).mono ?_;rintro e w2 ⟨rfl,hB2⟩;have HB2:=qe (HB1.out.trans (hB2.mono HB1.out.size));clear hB2;go_wp2_with fail;go_ret;exact⟨qH HR.out.symm,HB2.out⟩
 ·have b2:(l[k].typ == 2)=false:=by rw[beq_eq_false_iff_ne];exact h2
  by_cases h39:l[k].typ=39
  ·have b3:(l[k].typ == 39)=true:=by rw[beq_iff_eq];exact h39
   have hr:zn.Zd l[k]=kG l[k].owner:=by unfold zn.Zd;rw[decide_eq_true h39];simp
   have H2:=qe h2;have H39:=qe h39;have HR:=qe hr;clear h2 h39 hr
   go_enter Tryz.func81,Tryz.ntmps81
   go_wp2_with fail;rw[← HW1.out];refine(VQ _ hso _).mono ?_;rintro e w2 ⟨rfl,hB2⟩;have HB2:=qe (HB1.out.trans (hB2.mono HB1.out.size));clear hB2;go_wp2_with fail;go_ret;exact⟨qH HR.out.symm,HB2.out⟩
  ·have b3:(l[k].typ == 39)=false:=by rw[beq_eq_false_iff_ne];exact h39
   have hr:zn.Zd l[k]=false:=by unfold zn.Zd;rw[decide_eq_false h2,decide_eq_false h39];rfl
   have H2:=qe h2;have H39:=qe h39;have HR:=qe hr;clear h2 h39 hr
   go_enter Tryz.func81,Tryz.ntmps81
   go_wp2_with fail;go_ret;exact⟨qH HR.out.symm,by rw[← HW1.out];exact HB1.out⟩
theorem rbreaks_8 (qg:ByteArray)(l:List Rec)(k:Nat)(hk:k<l.length)(hl:l.length≤2000)(hn:zn.jN l)(v:Value)(w:World)(hrv:qm w v l):
 Calls Tryz.prog 81 #[.int .i64 8,.string qg,v,.int .i64 k] w fun e w'=>e= .returned (.bool (zn.Yt (zn.kX l) l[k]))∧Below w.heap.size w w':=by
 have hsz:∀r∈l,r.owner.size≤1099511627776:=fun r hr=>by have:=qU (hn r hr);omega
 obtain⟨b,off,cap,rfl,hcap⟩:=uI hrv hk;obtain⟨hb,c0,c1,c2,c3,c4⟩:=qL hrv hk;have hki:(k:Int)<(l.length:Int):=by omega
 obtain⟨w1,hw1⟩:∃W,W=w.alloc (.cells (recC l[k]).toArray 80):=⟨_,rfl⟩;obtain⟨hB1,hz1,hx⟩:=qY w w1 l[k] hw1;have xJ:=hrv.below hB1;have lt1:w.heap.size<w1.heap.size:=by omega
 have hso:=hsz l[k] (List.getElem_mem hk);obtain⟨x0,x1,x2,x3,x4⟩:=id hx;have HW1:=qe hw1;have HB1:=qe hB1;have HZ1:=qe hz1;have HX:=qe hx;have HRV:=qe hrv;have ZU:=qe xJ;have HSZ:=qe hsz;clear hw1 hB1 hz1 hx hrv xJ hsz;have hs1:=HB1.out.size;have HN:=qe hn;clear hn
 go_enter Tryz.func81,Tryz.ntmps81
 go_wp2_with fail;rw[← HW1.out];clear c0 c1 c2 c3 c4 x0 x1 x2 x3 x4
 go_loopw [110,12] (fun jv _ wr=>∃j:Nat,j≤l.length∧jv= .int .i64 (j:Int)∧(∀i (hi:i<l.length),i<j→i≠k→¬(l[k].typ=5∧qF l[i].owner l[k].owner=true∧l[i].typ≠46∧l[i].typ≠47))∧Below w1.heap.size w1 wr) (fun jv _ _=>l.length-(intOf jv).toNat)
 case atStart=>exact⟨0,Nat.zero_le _,rfl,(fun i hi h=>by omega),Below.refl _ _⟩
 case round=>
  obtain⟨j,hj,rfl,hno,hB⟩:=hrel;by_cases hjl:j<l.length
  ·have hji:(j:Int)<(l.length:Int):=by omega
   obtain⟨hb',ra⟩:=qL ZU.out hjl;obtain⟨y0,y1,y2,y3,y4⟩:=ra.keep (hB.block _ hb');obtain⟨x0,x1,x2,x3,x4⟩:=HX.out.keep (hB.block _ lt1);have e0:=qf y0;have e1:=qf y1;have e3:=qf y3;have f0:=qf x0;have f1:=qf x1;have f3:=qf x3;have sj:=HSZ.out _ (List.getElem_mem hjl);have hsr:=hB.size;clear x0 x1 x2 x3 x4 y0 y1 y2 y3 y4;by_cases h5:l[k].typ=5
   ·have b5:(l[k].typ == 5)=true:=by rw[beq_iff_eq];exact h5
    by_cases hjk:j=k
    ·have bj:((j:Int) != (k:Int))=false:=by rw[hjk];simp
     have yR:∀i (hi:i<l.length),i<j+1→i≠k→¬(l[k].typ=5∧qF l[i].owner l[k].owner=true∧l[i].typ≠46∧l[i].typ≠47):=fun i hi h hne=>by
      rcases Nat.lt_or_ge i j with h' | h'
      ·exact hno i hi h' hne
      ·exact absurd (show i=k by omega) hne
     have CE:Hid True:=qe trivial;have H5:=qe h5;have HJK:=qe hjk;clear h5 hjk;have HNO:=qe hno;have HB:=qe hB;have uk:=qe yR;clear hno hB yR;go_wp2_with fail;refine ql (by kernel_rfl) (by kernel_rfl) ?_
     repeat (with_reducible refine wpQuiet_step (fun K hK=>?_);go_simp;(try simp only[undef]);first | (with_reducible refine hK _ ?_;clear hK K) | (apply Exists.intro;refine⟨fun _=>?_,hK _ ?_⟩;(first | (fail));clear hK K) | (with_reducible refine⟨fun _ h=>(by cases h),?_⟩;with_reducible refine hK _ ?_;clear hK K))
     refine wpQuiet_nil ?_
     (try simp only[show Value.tuple #[]=undef from rfl])
     intro W hW;have hBW:Below wr.heap.size wr W:=by obtain⟨g,rfl⟩:=hW;exact qB _ g
     clear hW;have HBW:=qe (HB.out.trans (hBW.mono hsr));clear hBW;go_wp2_with fail
     go_roundw
     case rel=>exact⟨j+1,by omega,by go_num,uk.out,HBW.out⟩
     case measure=>simp[intOf];omega
    ·have bj:((j:Int) != (k:Int))=true:=by rw[bne_iff_ne];omega
     cases he:qF l[j].owner l[k].owner
     ·have yR:∀i (hi:i<l.length),i<j+1→i≠k→¬(l[k].typ=5∧qF l[i].owner l[k].owner=true∧l[i].typ≠46∧l[i].typ≠47):=fun i hi h hne=>by
       rcases Nat.lt_or_ge i j with h' | h'
       ·exact hno i hi h' hne
       ·obtain rfl:i=j:=by omega
        rintro⟨_,h2,_⟩;rw[he]at h2
        cases h2
      have CE:Hid (∀g,Calls Tryz.prog 55 #[.string l[j].owner,.string l[k].owner] (gw wr g) fun e w''=>e= .returned (.bool false)∧∃g',w''=gw wr g'):=qe fun g=>qV (by rw[← he];exact zV _ _ sj hso _);have H5:=qe h5;have HE:=qe he;clear h5 he;have HNO:=qe hno;have HB:=qe hB;have uk:=qe yR;clear hno hB yR;go_wp2_with fail;refine ql (by kernel_rfl) (by kernel_rfl) ?_
      repeat (with_reducible refine wpQuiet_step (fun K hK=>?_);go_simp;(try simp only[undef]);first | (with_reducible refine hK _ ?_;clear hK K) | (apply Exists.intro;refine⟨fun _=>?_,hK _ ?_⟩;(first | (go_at_call 55;with_reducible exact CE.out _));clear hK K) | (with_reducible refine⟨fun _ h=>(by cases h),?_⟩;with_reducible refine hK _ ?_;clear hK K))
      refine wpQuiet_nil ?_
      (try simp only[show Value.tuple #[]=undef from rfl])
      intro W hW;have hBW:Below wr.heap.size wr W:=by obtain⟨g,rfl⟩:=hW;exact qB _ g
      clear hW;have HBW:=qe (HB.out.trans (hBW.mono hsr));clear hBW;go_wp2_with fail
      go_roundw
      case rel=>exact⟨j+1,by omega,by go_num,uk.out,HBW.out⟩
      case measure=>simp[intOf];omega
     ·by_cases h46:l[j].typ=46
      ·have b46:(l[j].typ != 46)=false:=by rw[h46];rfl
       have yR:∀i (hi:i<l.length),i<j+1→i≠k→¬(l[k].typ=5∧qF l[i].owner l[k].owner=true∧l[i].typ≠46∧l[i].typ≠47):=fun i hi h hne=>by
        rcases Nat.lt_or_ge i j with h' | h'
        ·exact hno i hi h' hne
        ·obtain rfl:i=j:=by omega
         rintro⟨_,_,h2,_⟩;exact h2 h46
       have CE:Hid (∀g,Calls Tryz.prog 55 #[.string l[j].owner,.string l[k].owner] (gw wr g) fun e w''=>e= .returned (.bool true)∧∃g',w''=gw wr g'):=qe fun g=>qV (by rw[← he];exact zV _ _ sj hso _);have H5:=qe h5;have HE:=qe he;have H46:=qe h46;clear h5 he h46;have HNO:=qe hno;have HB:=qe hB;have uk:=qe yR;clear hno hB yR;go_wp2_with fail;refine ql (by kernel_rfl) (by kernel_rfl) ?_
       repeat (with_reducible refine wpQuiet_step (fun K hK=>?_);go_simp;(try simp only[undef]);first | (with_reducible refine hK _ ?_;clear hK K) | (apply Exists.intro;refine⟨fun _=>?_,hK _ ?_⟩;(first | (go_at_call 55;with_reducible exact CE.out _));clear hK K) | (with_reducible refine⟨fun _ h=>(by cases h),?_⟩;with_reducible refine hK _ ?_;clear hK K))
       refine wpQuiet_nil ?_
       (try simp only[show Value.tuple #[]=undef from rfl])
       intro W hW;have hBW:Below wr.heap.size wr W:=by obtain⟨g,rfl⟩:=hW;exact qB _ g
       clear hW;have HBW:=qe (HB.out.trans (hBW.mono hsr));clear hBW;go_wp2_with fail
       go_roundw
       case rel=>exact⟨j+1,by omega,by go_num,uk.out,HBW.out⟩
       case measure=>simp[intOf];omega
      ·have b46:(l[j].typ != 46)=true:=by rw[bne_iff_ne];exact h46
       by_cases h47:l[j].typ=47
       ·have b47:(l[j].typ != 47)=false:=by rw[h47];rfl
        have yR:∀i (hi:i<l.length),i<j+1→i≠k→¬(l[k].typ=5∧qF l[i].owner l[k].owner=true∧l[i].typ≠46∧l[i].typ≠47):=fun i hi h hne=>by
         rcases Nat.lt_or_ge i j with h' | h'
         ·exact hno i hi h' hne
         ·obtain rfl:i=j:=by omega
          rintro⟨_,_,_,h2⟩;exact h2 h47
        have CE:Hid (∀g,Calls Tryz.prog 55 #[.string l[j].owner,.string l[k].owner] (gw wr g) fun e w''=>e= .returned (.bool true)∧∃g',w''=gw wr g'):=qe fun g=>qV (by rw[← he];exact zV _ _ sj hso _);have H5:=qe h5;have HE:=qe he;have H46:=qe h46;have H47:=qe h47;clear h5 he h46 h47;have HNO:=qe hno;have HB:=qe hB;have uk:=qe yR;clear hno hB yR;go_wp2_with fail;refine ql (by kernel_rfl) (by kernel_rfl) ?_
        repeat (with_reducible refine wpQuiet_step (fun K hK=>?_);go_simp;(try simp only[undef]);first | (with_reducible refine hK _ ?_;clear hK K) | (apply Exists.intro;refine⟨fun _=>?_,hK _ ?_⟩;(first | (go_at_call 55;with_reducible exact CE.out _));clear hK K) | (with_reducible refine⟨fun _ h=>(by cases h),?_⟩;with_reducible refine hK _ ?_;clear hK K))
        refine wpQuiet_nil ?_
        (try simp only[show Value.tuple #[]=undef from rfl])
        intro W hW;have hBW:Below wr.heap.size wr W:=by obtain⟨g,rfl⟩:=hW;exact qB _ g
        clear hW;have HBW:=qe (HB.out.trans (hBW.mono hsr));clear hBW;go_wp2_with fail
        go_roundw
        case rel=>exact⟨j+1,by omega,by go_num,uk.out,HBW.out⟩
        case measure=>simp[intOf];omega
       ·have b47:(l[j].typ != 47)=true:=by rw[bne_iff_ne];exact h47
        have hres:zn.Yt (zn.kX l) l[k]=true:=zn.bad4_hit hk hjl hjk h5 HN.out he h46 h47;have CE:Hid (∀g,Calls Tryz.prog 55 #[.string l[j].owner,.string l[k].owner] (gw wr g) fun e w''=>e= .returned (.bool true)∧∃g',w''=gw wr g'):=qe fun g=>qV (by rw[← he];exact zV _ _ sj hso _);have H5:=qe h5;have HE:=qe he;have H46:=qe h46;have H47:=qe h47;have HNO:=qe hno;have HB:=qe hB;have zH:=qe hres;clear h5 he h46 h47 hno hB hres;go_wp2_with fail;refine ql (by kernel_rfl) (by kernel_rfl) ?_
        repeat (with_reducible refine wpQuiet_step (fun K hK=>?_);go_simp;(try simp only[undef]);first | (with_reducible refine hK _ ?_;clear hK K) | (apply Exists.intro;refine⟨fun _=>?_,hK _ ?_⟩;(first | (go_at_call 55;with_reducible exact CE.out _));clear hK K) | (with_reducible refine⟨fun _ h=>(by cases h),?_⟩;with_reducible refine hK _ ?_;clear hK K))
        refine wpQuiet_nil ?_
        (try simp only[show Value.tuple #[]=undef from rfl])
        intro W hW;have hBW:Below wr.heap.size wr W:=by obtain⟨g,rfl⟩:=hW;exact qB _ g
        clear hW;have HBW:=qe (HB1.out.trans ((HB.out.trans (hBW.mono hsr)).mono hs1));clear hBW;go_wp2_with fail;go_ret;exact⟨qH zH.out.symm,HBW.out⟩
   ·have b5:(l[k].typ == 5)=false:=by rw[beq_eq_false_iff_ne];exact h5
    have yR:∀i (hi:i<l.length),i<j+1→i≠k→¬(l[k].typ=5∧qF l[i].owner l[k].owner=true∧l[i].typ≠46∧l[i].typ≠47):=fun i hi h hne h2=>h5 h2.1;have H5:=qe h5;have HNO:=qe hno;have HB:=qe hB;have uk:=qe yR;clear h5 hno hB yR;go_wp2_with fail;refine ql (by kernel_rfl) (by kernel_rfl) ?_
    repeat (with_reducible refine wpQuiet_step (fun K hK=>?_);go_simp;(try simp only[undef]);first | (with_reducible refine hK _ ?_;clear hK K) | (apply Exists.intro;refine⟨fun _=>?_,hK _ ?_⟩;(first | (fail));clear hK K) | (with_reducible refine⟨fun _ h=>(by cases h),?_⟩;with_reducible refine hK _ ?_;clear hK K))
    refine wpQuiet_nil ?_
    (try simp only[show Value.tuple #[]=undef from rfl])
    intro W hW;have hBW:Below wr.heap.size wr W:=by obtain⟨g,rfl⟩:=hW;exact qB _ g
    clear hW;have HBW:=qe (HB.out.trans (hBW.mono hsr));clear hBW;go_wp2_with fail
    go_roundw
    case rel=>exact⟨j+1,by omega,by go_num,uk.out,HBW.out⟩
    case measure=>simp[intOf];omega
  ·obtain rfl:j=l.length:=by omega
   have hres:zn.Yt (zn.kX l) l[k]=false:=by
    by_cases h5:l[k].typ=5
    ·exact zn.bad4_miss hk HN.out (fun j hj hne h=>hno j hj hj hne ⟨h5,h.1,h.2.1,h.2.2⟩)
    ·exact zn.bad4_other h5
   have HBE:=qe (HB1.out.trans (hB.mono hs1));have HNO:=qe hno;have HB:=qe hB;have zH:=qe hres;clear hno hB hres;go_wp2_with fail;go_ret;exact⟨qH zH.out.symm,HBE.out⟩
end Go.Proofs.YtpcmilhjpmlbpaaGreatDoor
