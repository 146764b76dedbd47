import Derived.Test.YtpcmilhjpmlbpaaGreatDoorQRefB
set_option maxRecDepth 100000
set_option maxHeartbeats 4000000
namespace Go.Proofs.YtpcmilhjpmlbpaaGreatDoor
open Go.RowKit Go.Shelf nm od
namespace zn
theorem QB {l:List Rec}{k j:Nat}{p:Rec->Bool}(hk:k<=l.length)(hj:j<k)(h:p (l[j]'(by omega))=true):0<((l.take k).filter p).length:=by
 have hm:l[j]'(by omega)∈l.take k:=by rw[List.mem_take_iff_getElem];exact⟨j,by omega,rfl⟩
 exact List.length_pos_of_mem (List.mem_filter.2 ⟨hm,h⟩)
theorem uZ {l:List Rec}{k:Nat}{p:Rec->Bool}(h:∀j (hj:j<l.length),j<k->p l[j]=false):(l.take k).filter p= []:=by
 rw[List.filter_eq_nil_iff];intro r hr;rw[List.mem_take_iff_getElem]at hr;obtain⟨i,hi,rfl⟩:=hr;rw[h i (by omega) (by omega)];simp
theorem two_at {l:List Rec}{p:Rec->Bool}{i j:Nat}(hi:i<l.length)(hj:j<l.length)(hne:i≠j)(h1:p l[i]=true)(h2:p l[j]=true):1<(l.filter p).length:=by
 have main:∀(i j:Nat) (hi:i<l.length) (hj:j<l.length),i<j->p l[i]=true->p l[j]=true->1<(l.filter p).length:=by
  intro i j hi hj hij h1 h2;have e:l.filter p=(l.take j).filter p ++ (l.drop j).filter p:=by rw[<- List.filter_append,List.take_append_drop]
  have a:=QB (p:=p) (Nat.le_of_lt hj) hij h1;have b:0<((l.drop j).filter p).length:=List.length_pos_of_mem (List.mem_filter.2 ⟨uG hj,h2⟩);rw[e,gK];omega
 rcases Nat.lt_or_gt_of_ne hne with h | h
 ·exact main i j hi hj h h1 h2
 ·exact main j i hj hi h h2 h1
theorem one_at {l:List Rec}{p:Rec->Bool}{k:Nat}(h:∀j (hj:j<l.length),j≠k->p l[j]=false):(l.filter p).length<=1:=by
 have e:l.filter p=(l.take k).filter p ++ (l.drop k).filter p:=by rw[<- List.filter_append,List.take_append_drop]
 rw[e,uZ (λj hj h'=>h j hj (by omega)),List.nil_append];rcases Nat.lt_or_ge k l.length with hk | hk
 ·rw[Hf hk,List.filter_cons];have:(l.drop (k+1)).filter p= []:=by
   rw[List.filter_eq_nil_iff];intro r hr;obtain⟨i,hi,rfl⟩:=List.getElem_of_mem hr;rw[He]at hi;rw[List.getElem_drop,h (k+1+i) (by omega) (by omega)];simp
  rw[this]
  split <;> simp
 ·rw[List.drop_of_length_le hk];simp
theorem full_iff {a b:Rec}(ha:qo a.owner=true)(hb:qo b.owner=true):yJ a=yJ b↔a.typ=b.typ/\qG a.owner b.owner=true/\dt.ym a.typ a.data=dt.ym b.typ b.data:=by
 unfold yJ;rw[zP ha hb];simp only[Prod.mk.injEq];constructor
 ·rintro⟨h1,h2,h3⟩;exact⟨h2,h1,h3⟩
 ·rintro⟨h1,h2,h3⟩;exact⟨h2,h1,h3⟩
theorem key_iff {a b:Rec}(ha:qo a.owner=true)(hb:qo b.owner=true):yh a=yh b↔a.typ=b.typ/\qG a.owner b.owner=true:=by
 unfold yh;rw[zP ha hb];simp only[Prod.mk.injEq];exact And.comm
theorem twice_hit {l:List Rec}{j k:Nat}(hk:k<l.length)(hj:j<k)(h:yJ (l[j]'(by omega))=yJ l[k]):jP l k=true:=by
 unfold jP;rw[List.getElem?_eq_getElem hk];simp only[H7];exact QB (Nat.le_of_lt hk) hj (by simpa using h)
theorem twice_miss {l:List Rec}{k:Nat}(hk:k<l.length)(h:∀j (hj:j<l.length),j<k->yJ l[j]≠yJ l[k]):jP l k=false:=by
 unfold jP;rw[List.getElem?_eq_getElem hk];simp only[decide_eq_false_iff_not];unfold vg;rw[uZ (λj hj h'=>by simpa using h j hj h')];simp
theorem X4 {qf:ByteArray}{l:List Rec}{k:Nat}(hk:k<l.length):Qj qf l k=JK qf (Qi (l.take k)) l[k]:=by
 unfold Qj;rw[List.getElem?_eq_getElem hk]
theorem soa_other {qf:ByteArray}{l:List Rec}{k:Nat}(hk:k<l.length)(h:l[k].typ≠6):Qj qf l k=false:=by
 rw[X4 hk];unfold JK;simp[h]
theorem soa_hit {qf:ByteArray}{l:List Rec}{j k:Nat}(hk:k<l.length)(h:l[k].typ=6)(hj:j<k)(h2:(l[j]'(by omega)).typ=6):Qj qf l k=true:=by
 rw[X4 hk];have:=QB (p:=λr=>decide (r.typ=6)) (Nat.le_of_lt hk) hj (by simpa using h2);unfold JK;rw[Uv];simp only[h,this,decide_true,Bool.true_or,Bool.and_self]
theorem soa_miss {qf:ByteArray}{l:List Rec}{k:Nat}(hk:k<l.length)(h:l[k].typ=6)(h2:∀j (hj:j<l.length),j<k->l[j].typ≠6):Qj qf l k= !qG l[k].owner qf:=by
 rw[X4 hk];unfold JK;rw[Uv,uZ (λj hj h'=>by simpa using h2 j hj h')];simp[h]
theorem bad4_other {l:List Rec}{r:Rec}(h:r.typ≠5):YE (kZ l) r=false:=by unfold YE;simp[h]
theorem bad4_hit {l:List Rec}{j k:Nat}(hk:k<l.length)(hj:j<l.length)(hne:j≠k)(h5:l[k].typ=5)(hn:jN l)(he:qG l[j].owner l[k].owner=true)(h1:l[j].typ≠46)(h2:l[j].typ≠47):YE (kZ l) l[k]=true:=by
 have hf:=(zP (hn _ (Ht hj)) (hn _ (Ht hk))).1 he;have:=two_at (p:=λr=>!decide (r.typ=46) && !decide (r.typ=47) && decide (qy r.owner=qy l[k].owner)) hj hk hne (by simp[h1,h2,hf]) (by simp[h5]);unfold YE kZ;rw[h5];simp only[decide_true,Bool.true_and,H7];omega
theorem bad4_miss {l:List Rec}{k:Nat}(hk:k<l.length)(hn:jN l)(h:∀j (hj:j<l.length),j≠k->¬(qG l[j].owner l[k].owner=true/\l[j].typ≠46/\l[j].typ≠47)):YE (kZ l) l[k]=false:=by
 have:=one_at (l:=l) (k:=k) (p:=λr=>!decide (r.typ=46) && !decide (r.typ=47) && decide (qy r.owner=qy l[k].owner)) (λj hj hne=>by
  have h3:=h j hj hne;rw[zP (hn _ (Ht hj)) (hn _ (Ht hk))]at h3;rw[Bool.eq_false_iff];intro h4;simp only[gX,Bool.not_eq_true',decide_eq_false_iff_not,H7]at h4;exact h3 ⟨h4.2,h4.1.1,h4.1.2⟩)
 unfold YE kZ;rw[Bool.eq_false_iff];intro h4;simp only[gX,H7]at h4;omega
theorem KH {a n:ByteArray}(ha:qo a=true)(hn:qo n=true):qy n∈vF (qy a)↔zI a n=true/\qG a n=false:=by
 obtain⟨x,hx⟩:=yO ha;obtain⟨y,hy⟩:=yO hn;have hfx:=vL hx;have hcx:qM (qy a)=x.length:=by rw[Qw hfx,Zc]
 have hup:ups 0 (qy a)=qy a :: vF (qy a):=by
  unfold ups vF;rw[hcx,Int.toNat_natCast,Nat.sub_zero,List.range_succ_eq_map,List.map_cons,List.map_map]
  congr 1
  ·have:=JW hfx;rw[Zc]at this
   simpa using this
  ·apply List.map_congr_left;intro i _;simp only[Function.comp]
   congr 1
   omega
 have hw:=ups_within hx hy (gU _) (gU _);rw[hup,List.mem_cons]at hw;have hnot:qy a∉vF (qy a):=by
  intro h;unfold vF at h;obtain⟨i,hi,e⟩:=List.mem_map.1 h;rw[hcx,Int.toNat_natCast,List.mem_range]at hi;have h2:=count_tail hfx (k:=(x.length:Int)-1-i) (by omega) (by rw[Zc];omega);rw[hcx]at e;rw[e,hcx]at h2;omega
 have heq:qG a n=false↔qy n≠qy a:=by
  rw[<- Bool.not_eq_true,zP ha hn];exact⟨λh e=>h e.symm,λh e=>h e.symm⟩
 rw[heq,<- hw];constructor
 ·intro h;refine⟨.inr h,λe=>hnot (by rw[e]at h;exact h)⟩
 ·rintro⟨h | h,h2⟩
  ·exact absurd h h2
  ·exact h
theorem below_pos {l:List Rec}{n:ByteArray}:0<zD l n↔∃r∈l,n∈vF (qy r.owner):=by
 unfold zD;rw[show(0:Int)<((((l.flatMap λr=>vF (qy r.owner)).filter λa=>decide (a=n)).length:Nat):Int)↔0<((l.flatMap λr=>vF (qy r.owner)).filter λa=>decide (a=n)).length by omega];constructor
 ·intro h;obtain⟨a,ha⟩:=List.exists_mem_of_length_pos h;obtain⟨h1,h2⟩:=List.mem_filter.1 ha;obtain rfl:a=n:=by simpa using h2
  obtain⟨r,hr,h3⟩:=List.mem_flatMap.1 h1;exact⟨r,hr,h3⟩
 ·rintro⟨r,hr,h⟩;exact List.length_pos_of_mem (List.mem_filter.2 ⟨List.mem_flatMap.2 ⟨r,hr,h⟩,by simp⟩)
theorem bad5_other {low:ByteArray}{F:Key->List Rec}{below:ByteArray->Int}{r:Rec}(h:r.typ≠39):xA low F below r=false:=by unfold xA;simp[h]
def VL (k j:Nat)(x y:Rec):Bool:=(decide (j≠k) && qG y.owner x.owner && decide (y.typ=39)) || (!qG y.owner x.owner && zI y.owner x.owner)
theorem bad5_hit {qf:ByteArray}{l:List Rec}{j k:Nat}(hk:k<l.length)(hj:j<l.length)(h39:l[k].typ=39)(hn:jN l)(h:VL k j l[k] l[j]=true):xA (qy qf) (qJ l) (zD l) l[k]=true:=by
 have nk:=hn _ (Ht hk);have nj:=hn _ (Ht hj);unfold VL at h;unfold xA;simp only[Bool.or_eq_true,gX,H7,Bool.not_eq_true']at h;rw[h39];simp only[decide_true,Bool.true_and,Bool.or_eq_true,H7];rcases h with⟨⟨h1,h2⟩,h3⟩|⟨h1,h2⟩
 ·left;right;have hf:=(zP nj nk).1 h2;exact two_at hj hk h1 (by simp[yh,hf,h3]) (by simp[yh,h39])
 ·right;exact below_pos.2 ⟨_,Ht hj,(KH nj nk).2 ⟨h2,h1⟩⟩
theorem bad5_miss {qf:ByteArray}(hap:qo qf=true){l:List Rec}{k:Nat}(hk:k<l.length)(h39:l[k].typ=39)(hn:jN l)(h:∀j (hj:j<l.length),VL k j l[k] l[j]=false):xA (qy qf) (qJ l) (zD l) l[k]=qG l[k].owner qf:=by
 have nk:=hn _ (Ht hk);have h1:¬1<(qJ l (qy l[k].owner,39)).length:=by
  have:=one_at (l:=l) (k:=k) (p:=λr=>decide (yh r=(qy l[k].owner,39))) (λj hj hne=>by
   rw[decide_eq_false_iff_not];intro e;have hh:=h j hj;have nj:=hn _ (Ht hj);simp only[yh,Prod.mk.injEq]at e;have he:=(zP nj nk).2 e.1;unfold VL at hh;rw[he,gF hne,gF e.2]at hh;simp at hh)
  unfold qJ;omega
 have h2:¬0<zD l (qy l[k].owner):=by
  rw[below_pos];rintro⟨r,hr,hm⟩;obtain⟨j,hj,rfl⟩:=List.getElem_of_mem hr;have nj:=hn _ (Ht hj);obtain⟨e1,e2⟩:=(KH nj nk).1 hm;have hh:=h j hj;unfold VL at hh;rw[e1,e2]at hh;simp at hh
 unfold xA;rw[h39,gp h1,gp h2];simp only[decide_true,Bool.true_and,Bool.or_false];rw[Bool.eq_iff_iff,decide_eq_true_iff,zP nk hap]
theorem rows_head {l:List Rec}{κ:Key}{j:Nat}(hj:j<l.length)(h:yh l[j]=κ)(hn:∀i (hi:i<l.length),i<j->yh l[i]≠κ)(d:Rec):(qJ l κ).headD d=l[j]:=by
 have e:qJ l κ=(l.take j).filter (λr=>decide (yh r=κ)) ++ (l.drop j).filter (λr=>decide (yh r=κ)):=by
  unfold qJ;rw[<- List.filter_append,List.take_append_drop]
 rw[e,uZ (λi hi h'=>by simpa using hn i hi h'),List.nil_append,Hf hj,List.filter_cons,if_pos (by simpa using h)];rfl
theorem bad6_sig {F:Key->List Rec}{r:Rec}(h:r.typ=46):QS F r=false:=by unfold QS;simp[h]
theorem bad6_hit {l:List Rec}{j k:Nat}(hk:k<l.length)(hj:j<l.length)(h46:l[k].typ≠46)(h:yh l[j]=yh l[k])(hn:∀i (hi:i<l.length),i<j->yh l[i]≠yh l[k]):QS (qJ l) l[k]=decide (l[j].ttl≠l[k].ttl):=by
 unfold QS;rw[rows_head hj h hn];simp only[h46,decide_false,Bool.not_false,Bool.true_and];rw[Bool.eq_iff_iff];simp only[Bool.not_eq_true',decide_eq_false_iff_not,H7];exact⟨λh e=>h e.symm,λh e=>h e.symm⟩
theorem bad6_miss {l:List Rec}{k:Nat}(hk:k<l.length)(hn:∀i (hi:i<l.length),i<k->yh l[i]≠yh l[k]):QS (qJ l) l[k]=false:=by
 by_cases h:l[k].typ=46
 ·exact bad6_sig h
 ·rw[bad6_hit hk hk h rfl hn];simp
end zn
namespace zn
def xX (a b:Rec):Bool:=decide (a.typ=b.typ) && qG a.owner b.owner && ((dt.ym a.typ a.data).toList == (dt.ym b.typ b.data).toList)
def hasB (l:List Rec)(n:ByteArray)(t:Int):Bool:=l.any λr=>decide (r.typ=t) && qG r.owner n
end zn
theorem ralike_any (x y:Rec)(hx:x.owner.size<=1099511627776)(hy:y.owner.size<=1099511627776)(w:World):
 Calls Tryz.prog 132 #[yf x,yf y] w λe w'=>e= .returned (.bool (zn.xX x y))/\Below w.heap.size w w':=by
 have hB2:=qe (((gJ _ w).alloc (gI _) (.cells (recC x).toArray 80)).alloc (by simp) (.cells (recC y).toArray 80));have cx:=λj v h=>qx (.cells (recC y).toArray 80) (q8 w x 80 j v h);have cy:=λj v h=>q8 (w.alloc (.cells (recC x).toArray 80)) y 80 j v h;simp only[World.size_alloc]at cy;obtain⟨w2,hw2⟩:=yM ((w.alloc (.cells (recC x).toArray 80)).alloc (.cells (recC y).toArray 80));rw[<- hw2]at hB2 cx cy;have e0:=qh (cx 0 _ rfl);have e1:=qh (cx 1 _ rfl);have e2:=qh (cx 4 _ rfl);have e3:=qh (cy 0 _ rfl);have e4:=qh (cy 1 _ rfl);have e5:=qh (cy 4 _ rfl);have CE:Hid (∀g,Calls Tryz.prog 55 #[.string x.owner,.string y.owner] (gw w2 g) λe w''=>e= .returned (.bool (qG x.owner y.owner))/\∃g',w''=gw w2 g'):=qe λg=>qY (zT _ _ hx hy _);have CP:Hid (∀g,Calls Tryz.prog 175 #[.int .i64 x.typ,.string x.data] (gw w2 g) λe w''=>e= .returned (.string (dt.ym x.typ x.data))/\∃g',w''=gw w2 g'):=qe λg=>qY (YQ _ _ _);have CQ:Hid (∀g,Calls Tryz.prog 175 #[.int .i64 y.typ,.string y.data] (gw w2 g) λe w''=>e= .returned (.string (dt.ym y.typ y.data))/\∃g',w''=gw w2 g'):=qe λg=>qY (YQ _ _ _);have HW2:=qe hw2;clear hw2;clear cx cy;by_cases ht:x.typ=y.typ
 ·have bt:(x.typ == y.typ)=true:=by rw[Hz];exact ht
  cases he:qG x.owner y.owner
  ·have hr:zn.xX x y=false:=by unfold zn.xX;rw[he,Bool.and_false,Bool.false_and]
   rw[he]at CE;have HT:=qe ht;have HE:=qe he;have HR:=qe hr;clear ht he hr
   go_enter Tryz.func132,Tryz.ntmps132
   go_wp2_with fail;rw[<- HW2.out];refine qp (by kernel_rfl) (by kernel_rfl) ?_
   repeat (with_reducible refine Hu (λK hK=>?_);go_simp;(try simp only[undef]);first | (with_reducible refine hK _ ?_;clear hK K) | (apply gW;refine⟨λ_=>?_,hK _ ?_⟩;(first | (go_at_call 55;with_reducible exact CE.out _) | (go_at_call 175;first | with_reducible exact CP.out _ | with_reducible exact CQ.out _));clear hK K) | (with_reducible refine⟨λ_ h=>(by cases h),?_⟩;with_reducible refine hK _ ?_;clear hK K))
   refine Hw ?_
   (try simp only[show Value.tuple #[]=undef from rfl])
   intro W hW;have hBW:Below w2.heap.size w2 W:=by obtain⟨g,rfl⟩:=hW;exact qD _ g
   clear hW;go_wp2_with fail;go_ret;exact⟨qI HR.out.symm,hB2.out.trans (hBW.mono hB2.out.size)⟩
  ·have hr:zn.xX x y=((dt.ym x.typ x.data).toList == (dt.ym y.typ y.data).toList):=by unfold zn.xX;rw[he,gF ht];rfl
   rw[he]at CE;have HT:=qe ht;have HE:=qe he;have HR:=qe hr;clear ht he hr
   go_enter Tryz.func132,Tryz.ntmps132
   go_wp2_with fail;rw[<- HW2.out];refine qp (by kernel_rfl) (by kernel_rfl) ?_
   repeat (with_reducible refine Hu (λK hK=>?_);go_simp;(try simp only[undef]);first | (with_reducible refine hK _ ?_;clear hK K) | (apply gW;refine⟨λ_=>?_,hK _ ?_⟩;(first | (go_at_call 55;with_reducible exact CE.out _) | (go_at_call 175;first | with_reducible exact CP.out _ | with_reducible exact CQ.out _));clear hK K) | (with_reducible refine⟨λ_ h=>(by cases h),?_⟩;with_reducible refine hK _ ?_;clear hK K))
   refine Hw ?_
   (try simp only[show Value.tuple #[]=undef from rfl])
   intro W hW;have hBW:Below w2.heap.size w2 W:=by obtain⟨g,rfl⟩:=hW;exact qD _ g
   clear hW;go_wp2_with fail;go_ret;exact⟨qI HR.out.symm,hB2.out.trans (hBW.mono hB2.out.size)⟩
 ·have bt:(x.typ == y.typ)=false:=by rw[gG];exact ht
  have hr:zn.xX x y=false:=by unfold zn.xX;rw[gp ht];rfl
  have HT:=qe ht;have HR:=qe hr;clear ht hr
  go_enter Tryz.func132,Tryz.ntmps132
  go_wp2_with fail;rw[<- HW2.out];refine qp (by kernel_rfl) (by kernel_rfl) ?_
  repeat (with_reducible refine Hu (λK hK=>?_);go_simp;(try simp only[undef]);first | (with_reducible refine hK _ ?_;clear hK K) | (apply gW;refine⟨λ_=>?_,hK _ ?_⟩;(first | (go_at_call 55;with_reducible exact CE.out _) | (go_at_call 175;first | with_reducible exact CP.out _ | with_reducible exact CQ.out _));clear hK K) | (with_reducible refine⟨λ_ h=>(by cases h),?_⟩;with_reducible refine hK _ ?_;clear hK K))
  refine Hw ?_
  (try simp only[show Value.tuple #[]=undef from rfl])
  intro W hW;have hBW:Below w2.heap.size w2 W:=by obtain⟨g,rfl⟩:=hW;exact qD _ g
  clear hW;go_wp2_with fail;go_ret;exact⟨qI HR.out.symm,hB2.out.trans (hBW.mono hB2.out.size)⟩
theorem rhas_any (l:List Rec)(hl:l.length<=1000000)(hsz:∀r∈l,r.owner.size<=1099511627776)(n:ByteArray)(hn:n.size<=1099511627776)(t:Int)(v:Value)(w:World)(hrv:ql w v l):
 Calls Tryz.prog 82 #[v,.string n,.int .i64 t] w λe w'=>e= .returned (.bool (zn.hasB l n t))/\Below w.heap.size w w':=by
 obtain⟨a,cap,rfl,hcap,hr⟩:=hrv;have HR:=qe hr;have HSZ:=qe hsz;clear hr hsz
 go_enter Tryz.func82,Tryz.ntmps82
 go_wp2_with fail
 go_loopw [11,8] (λkv _ wr=>∃k:Nat,k<=l.length/\kv= .int .i64 (k:Int)/\(l.take k).any (λr=>decide (r.typ=t) && qG r.owner n)=false/\Below w.heap.size w wr) (λkv _ _=>l.length-(intOf kv).toNat)
 case atStart=>exact⟨0,gU _,rfl,rfl,gJ _ _⟩
 case round=>
  obtain⟨k,hk,rfl,hno,hB⟩:=hrel;have hsr:=hB.size;by_cases hlt:k<l.length
  ·obtain⟨b,off,rfl,hb,hra⟩:=HR.out k hlt;obtain⟨c0,c1,c2,c3,c4⟩:=hra.keep (hB.block b hb);have htk:(l.take (k+1)).any (λr=>decide (r.typ=t) && qG r.owner n)=(decide (l[k].typ=t) && qG l[k].owner n):=by
    rw[gV hlt,List.any_append,hno];simp
   have hso:=HSZ.out l[k] (Ht hlt);have d0:=q8 wr l[k] 80 0 _ rfl;have d1:=q8 wr l[k] 80 1 _ rfl;have HBA:=qe (hB.alloc hsr (.cells (recC l[k]).toArray 80));by_cases ht:l[k].typ=t
   ·have bt:(l[k].typ == t)=true:=by rw[Hz];exact ht
    cases he:qG l[k].owner n
    ·rw[he,Bool.and_false]at htk;have HNO:=qe hno;have HB:=qe hB;have HTK:=qe htk;have HT:=qe ht;have HE:=qe he;clear hno hB htk ht he;go_wp2_with fail;refine(zT _ _ hso hn _).mono ?_;rintro e w2 ⟨rfl,hB2⟩;rw[HE.out];have HB2:=qe (gm HBA.out hB2);clear hB2;go_wp2_with fail
     go_roundw
     case rel=>exact⟨k+1,by omega,by go_num,HTK.out,HB2.out⟩
     case measure=>simp[intOf];omega
    ·have hres:zn.hasB l n t=true:=by
      unfold zn.hasB;rw[List.any_eq_true];exact⟨l[k],Ht hlt,by rw[gF ht,he];rfl⟩
     have HNO:=qe hno;have HB:=qe hB;have HTK:=qe htk;have HT:=qe ht;have HE:=qe he;have zK:=qe hres;clear hno hB htk ht he hres;go_wp2_with fail;refine(zT _ _ hso hn _).mono ?_;rintro e w2 ⟨rfl,hB2⟩;rw[HE.out];have HB2:=qe (gm HBA.out hB2);clear hB2;go_wp2_with fail;go_ret;exact⟨qI zK.out.symm,HB2.out⟩
   ·have bt:(l[k].typ == t)=false:=by rw[gG];exact ht
    rw[gp ht,Bool.false_and]at htk;have HNO:=qe hno;have HB:=qe hB;have HTK:=qe htk;have HT:=qe ht;clear hno hB htk ht;go_wp2_with fail
    go_roundw
    case rel=>exact⟨k+1,by omega,by go_num,HTK.out,HBA.out⟩
    case measure=>simp[intOf];omega
  ·obtain rfl:k=l.length:=by omega
   have hres:zn.hasB l n t=false:=by rw[List.take_length]at hno;exact hno
   have HNO:=qe hno;have HB:=qe hB;have zK:=qe hres;clear hno hB hres;go_wp2_with fail;go_ret;exact⟨qI zK.out.symm,HB.out⟩
namespace zn
theorem alike_full {a b:Rec}(ha:qo a.owner=true)(hb:qo b.owner=true):xX a b=true↔yJ a=yJ b:=by
 rw[full_iff ha hb];unfold xX;simp only[gX,H7,and_assoc,str_eq]
end zn
theorem zf (w w1:World)(r:Rec)(h:w1=w.alloc (.cells (recC r).toArray 80)):
 Below w.heap.size w w1/\w1.heap.size=w.heap.size+1/\Zk w1 w.heap.size 0 r:=by
 subst h;exact⟨(gJ _ w).alloc (gI _) _,by simp,q8 w r _ 0 _ rfl,q8 w r _ 1 _ rfl,q8 w r _ 2 _ rfl,q8 w r _ 3 _ rfl,q8 w r _ 4 _ rfl⟩
theorem qH {w:World}{b off cap n:Nat}{l:List Rec}(h:ql w (.slice (some ⟨b,off,none⟩) n cap) l){j:Nat}(hj:j<l.length):b<w.heap.size/\Zk w b (off+j*5) l[j]:=by
 obtain⟨a,c,hv,_,hr⟩:=h;obtain⟨b',off',he,hl,ha⟩:=hr j hj;simp only[gL]at hv;rw[<- hv.1]at he;simp only[gM,Addr.mk.injEq,and_true]at he;obtain⟨rfl,rfl⟩:=he;exact⟨hl,ha⟩
theorem uM {w:World}{v:Value}{l:List Rec}{k:Nat}(h:ql w v l)(hk:k<l.length):∃b off cap,v= .slice (some ⟨b,off,none⟩) l.length cap/\l.length<=cap:=by
 obtain⟨a,c,rfl,hc,hr⟩:=h;obtain⟨b,off,rfl,_⟩:=hr k hk;exact⟨b,off,c,rfl,hc⟩
theorem rbreaks_2 (qf:ByteArray)(l:List Rec)(k:Nat)(hk:k<l.length)(_hl:l.length<=2000)(hsz:∀r∈l,r.owner.size<=1099511627776)(v:Value)(w:World)(hrv:ql w v l):
 Calls Tryz.prog 81 #[.int .i64 2,.string qf,v,.int .i64 k] w λe w'=>e= .returned (.bool (zn.jT l[k]))/\Below w.heap.size w w':=by
 obtain⟨b,off,cap,rfl,hcap⟩:=uM hrv hk;obtain⟨hb,c0,c1,c2,c3,c4⟩:=qH hrv hk;have hki:(k:Int)<(l.length:Int):=by omega
 obtain⟨w1,hw1⟩:=yM (w.alloc (.cells (recC l[k]).toArray 80));obtain⟨hB1,hz1,hx⟩:=zf w w1 l[k] hw1;have Qr:=hrv.below hB1;have lt1:w.heap.size<w1.heap.size:=by omega
 have hso:=hsz l[k] (Ht hk);obtain⟨x0,x1,x2,x3,x4⟩:=id hx;have HW1:=qe hw1;have HB1:=qe hB1;have HZ1:=qe hz1;have HX:=qe hx;have HRV:=qe hrv;have ZX:=qe Qr;have HSZ:=qe hsz;clear hw1 hB1 hz1 hx hrv Qr hsz
 cases hc:qo l[k].owner
 ·have hr:zn.jT l[k]=true:=by unfold zn.jT;rw[hc];rfl
  have HC:=qe hc;have HR:=qe hr;clear hc hr
  go_enter Tryz.func81,Tryz.ntmps81
  go_wp2_with fail;rw[<- HW1.out];refine(zu _ hso _).mono ?_;rintro e w2 ⟨rfl,hB2⟩;rw[HC.out];have y1:=(hB2.cell (p:=⟨w.heap.size,1,none⟩) lt1).trans x1;have y2:=(hB2.cell (p:=⟨w.heap.size,2,none⟩) lt1).trans x2;have y3:=(hB2.cell (p:=⟨w.heap.size,3,none⟩) lt1).trans x3;have y4:=(hB2.cell (p:=⟨w.heap.size,4,none⟩) lt1).trans x4;have HB2:=qe (gm HB1.out hB2);clear hB2;go_wp2_with fail;go_ret;exact⟨qI HR.out.symm,HB2.out⟩
 ·by_cases h1:l[k].cls=1
  ·have b1:(l[k].cls == 1)=true:=by rw[Hz];exact h1
   by_cases h2:0<=l[k].ttl
   ·by_cases h3:l[k].ttl<=2147483647
    ·have hr:zn.jT l[k]= !decide (dt.jh l[k].typ l[k].data=0):=by unfold zn.jT;rw[hc,gF h1,gF h2,gF h3];rfl
     by_cases h4:dt.jh l[k].typ l[k].data=0
     ·rw[gF h4]at hr;have HC:=qe hc;have HR:=qe hr;have H1:=qe h1;have H4:=qe h4;clear hc hr h1 h4
      go_enter Tryz.func81,Tryz.ntmps81
      go_wp2_with fail;rw[<- HW1.out];refine(zu _ hso _).mono ?_;rintro e w2 ⟨rfl,hB2⟩;rw[HC.out];have y1:=(hB2.cell (p:=⟨w.heap.size,1,none⟩) lt1).trans x1;have y2:=(hB2.cell (p:=⟨w.heap.size,2,none⟩) lt1).trans x2;have y3:=(hB2.cell (p:=⟨w.heap.size,3,none⟩) lt1).trans x3;have y4:=(hB2.cell (p:=⟨w.heap.size,4,none⟩) lt1).trans x4;have HB2:=qe (gm HB1.out hB2);clear hB2;go_wp2_with fail;refine(uB _ _ _).mono ?_;rintro e w3 ⟨rfl,hB3⟩;rw[H4.out];have HB3:=qe (gm HB2.out hB3);clear hB3;go_wp2_with fail;go_ret;exact⟨qI HR.out.symm,HB3.out⟩
     ·rw[gp h4]at hr;have b4:(dt.jh l[k].typ l[k].data == 0)=false:=by rw[gG];exact h4
      have HC:=qe hc;have HR:=qe hr;have H1:=qe h1;have H4:=qe h4;clear hc hr h1 h4
      go_enter Tryz.func81,Tryz.ntmps81
      go_wp2_with fail;rw[<- HW1.out];refine(zu _ hso _).mono ?_;rintro e w2 ⟨rfl,hB2⟩;rw[HC.out];have y1:=(hB2.cell (p:=⟨w.heap.size,1,none⟩) lt1).trans x1;have y2:=(hB2.cell (p:=⟨w.heap.size,2,none⟩) lt1).trans x2;have y3:=(hB2.cell (p:=⟨w.heap.size,3,none⟩) lt1).trans x3;have y4:=(hB2.cell (p:=⟨w.heap.size,4,none⟩) lt1).trans x4;have HB2:=qe (gm HB1.out hB2);clear hB2;go_wp2_with fail;refine(uB _ _ _).mono ?_;rintro e w3 ⟨rfl,hB3⟩;have HB3:=qe (gm HB2.out hB3);clear hB3;go_wp2_with fail;go_ret;exact⟨qI HR.out.symm,HB3.out⟩
    ·have hr:zn.jT l[k]=true:=by unfold zn.jT;rw[gp h3];simp
     have h3':2147483647<l[k].ttl:=by omega
     have HC:=qe hc;have HR:=qe hr;have H1:=qe h1;clear hc hr h1
     go_enter Tryz.func81,Tryz.ntmps81
     go_wp2_with fail;rw[<- HW1.out];refine(zu _ hso _).mono ?_;rintro e w2 ⟨rfl,hB2⟩;rw[HC.out];have y1:=(hB2.cell (p:=⟨w.heap.size,1,none⟩) lt1).trans x1;have y2:=(hB2.cell (p:=⟨w.heap.size,2,none⟩) lt1).trans x2;have y3:=(hB2.cell (p:=⟨w.heap.size,3,none⟩) lt1).trans x3;have y4:=(hB2.cell (p:=⟨w.heap.size,4,none⟩) lt1).trans x4;have HB2:=qe (gm HB1.out hB2);clear hB2;go_wp2_with fail;go_ret;exact⟨qI HR.out.symm,HB2.out⟩
   ·have hr:zn.jT l[k]=true:=by unfold zn.jT;rw[gp h2];simp
    have h2':l[k].ttl<0:=by omega
    have HC:=qe hc;have HR:=qe hr;have H1:=qe h1;clear hc hr h1
    go_enter Tryz.func81,Tryz.ntmps81
    go_wp2_with fail;rw[<- HW1.out];refine(zu _ hso _).mono ?_;rintro e w2 ⟨rfl,hB2⟩;rw[HC.out];have y1:=(hB2.cell (p:=⟨w.heap.size,1,none⟩) lt1).trans x1;have y2:=(hB2.cell (p:=⟨w.heap.size,2,none⟩) lt1).trans x2;have y3:=(hB2.cell (p:=⟨w.heap.size,3,none⟩) lt1).trans x3;have y4:=(hB2.cell (p:=⟨w.heap.size,4,none⟩) lt1).trans x4;have HB2:=qe (gm HB1.out hB2);clear hB2;go_wp2_with fail;go_ret;exact⟨qI HR.out.symm,HB2.out⟩
  ·have b1:(l[k].cls == 1)=false:=by rw[gG];exact h1
   have hr:zn.jT l[k]=true:=by unfold zn.jT;rw[gp h1];simp
   have HC:=qe hc;have HR:=qe hr;have H1:=qe h1;clear hc hr h1
   go_enter Tryz.func81,Tryz.ntmps81
   go_wp2_with fail;rw[<- HW1.out];refine(zu _ hso _).mono ?_;rintro e w2 ⟨rfl,hB2⟩;rw[HC.out];have y1:=(hB2.cell (p:=⟨w.heap.size,1,none⟩) lt1).trans x1;have y2:=(hB2.cell (p:=⟨w.heap.size,2,none⟩) lt1).trans x2;have y3:=(hB2.cell (p:=⟨w.heap.size,3,none⟩) lt1).trans x3;have y4:=(hB2.cell (p:=⟨w.heap.size,4,none⟩) lt1).trans x4;have HB2:=qe (gm HB1.out hB2);clear hB2;go_wp2_with fail;go_ret;exact⟨qI HR.out.symm,HB2.out⟩
theorem rbreaks_3 (qf:ByteArray)(hap:qf.size<=1099511627776)(l:List Rec)(k:Nat)(hk:k<l.length)(_hl:l.length<=2000)(hsz:∀r∈l,r.owner.size<=1099511627776)(v:Value)(w:World)(hrv:ql w v l):
 Calls Tryz.prog 81 #[.int .i64 3,.string qf,v,.int .i64 k] w λe w'=>e= .returned (.bool (!zI l[k].owner qf))/\Below w.heap.size w w':=by
 obtain⟨b,off,cap,rfl,hcap⟩:=uM hrv hk;obtain⟨hb,c0,c1,c2,c3,c4⟩:=qH hrv hk;have hki:(k:Int)<(l.length:Int):=by omega
 obtain⟨w1,hw1⟩:=yM (w.alloc (.cells (recC l[k]).toArray 80));obtain⟨hB1,hz1,hx⟩:=zf w w1 l[k] hw1;have Qr:=hrv.below hB1;have lt1:w.heap.size<w1.heap.size:=by omega
 have hso:=hsz l[k] (Ht hk);obtain⟨x0,x1,x2,x3,x4⟩:=id hx;have HW1:=qe hw1;have HB1:=qe hB1;have HZ1:=qe hz1;have HX:=qe hx;have HRV:=qe hrv;have ZX:=qe Qr;have HSZ:=qe hsz;clear hw1 hB1 hz1 hx hrv Qr hsz
 go_enter Tryz.func81,Tryz.ntmps81
 go_wp2_with fail;rw[<- HW1.out];refine(Ql _ _ hso hap _).mono ?_;rintro e w2 ⟨rfl,hB2⟩;have HB2:=qe (gm HB1.out hB2);clear hB2;go_wp2_with fail;go_ret;exact⟨rfl,HB2.out⟩
theorem rbreaks_4 (qf:ByteArray)(l:List Rec)(k:Nat)(hk:k<l.length)(hl:l.length<=2000)(hn:zn.jN l)(v:Value)(w:World)(hrv:ql w v l):
 Calls Tryz.prog 81 #[.int .i64 4,.string qf,v,.int .i64 k] w λe w'=>e= .returned (.bool (zn.jP l k))/\Below w.heap.size w w':=by
 have hsz:∀r∈l,r.owner.size<=1099511627776:=λr hr=>by have:=qV (hn r hr);omega
 obtain⟨b,off,cap,rfl,hcap⟩:=uM hrv hk;obtain⟨hb,c0,c1,c2,c3,c4⟩:=qH hrv hk;have hki:(k:Int)<(l.length:Int):=by omega
 obtain⟨w1,hw1⟩:=yM (w.alloc (.cells (recC l[k]).toArray 80));obtain⟨hB1,hz1,hx⟩:=zf w w1 l[k] hw1;have Qr:=hrv.below hB1;have lt1:w.heap.size<w1.heap.size:=by omega
 have hso:=hsz l[k] (Ht hk);obtain⟨x0,x1,x2,x3,x4⟩:=id hx;have HW1:=qe hw1;have HB1:=qe hB1;have HZ1:=qe hz1;have HX:=qe hx;have HRV:=qe hrv;have ZX:=qe Qr;have HSZ:=qe hsz;clear hw1 hB1 hz1 hx hrv Qr hsz;have hs1:=HB1.out.size;have nk:=hn _ (Ht hk);have HN:=qe hn;have NK:=qe nk;clear hn nk;clear c0 c1 c2 c3 c4 x0 x1 x2 x3 x4;obtain⟨c0,c1,c2,c3,c4⟩:=(qH HRV.out hk).2
 go_enter Tryz.func81,Tryz.ntmps81
 go_wp2_with fail;rw[<- HW1.out];clear c0 c1 c2 c3 c4
 go_loopw [10] (λjv wr=>∃j:Nat,j<=k/\jv= .int .i64 (j:Int)/\(∀i (hi:i<l.length),i<j->zn.yJ l[i]≠zn.yJ l[k])/\Below w1.heap.size w1 wr) (λjv _=>k-(intOf jv).toNat)
 case atStart=>exact⟨0,gU _,rfl,(λi hi h=>by omega),gJ _ _⟩
 case round=>
  obtain⟨j,hj,rfl,hno,hB⟩:=hrel;by_cases hlt:j<k
  ·have hjl:j<l.length:=by omega
   have hji:(j:Int)<(l.length:Int):=by omega
   obtain⟨hb',ra⟩:=qH ZX.out hjl;obtain⟨y0,y1,y2,y3,y4⟩:=ra.keep (hB.block _ hb');obtain⟨x0,x1,x2,x3,x4⟩:=HX.out.keep (hB.block _ lt1);have e0:=qh y0;have e1:=qh y1;have e2:=qh y2;have e3:=qh y3;have e4:=qh y4;have f0:=qh x0;have f1:=qh x1;have f2:=qh x2;have f3:=qh x3;have f4:=qh x4;have nj:=HN.out _ (Ht hjl);have sj:=HSZ.out _ (Ht hjl);have hsr:=hB.size;clear x0 x1 x2 x3 x4 y0 y1 y2 y3 y4
   cases ha:zn.xX l[j] l[k]
   ·have CP:Hid (∀g,Calls Tryz.prog 132 #[yf l[j],yf l[k]] (gw wr g) λe w''=>e= .returned (.bool false)/\∃g',w''=gw wr g'):=qe λg=>qY (by rw[<- ha];exact ralike_any _ _ sj hso _)
    have yU:∀i (hi:i<l.length),i<j+1->zn.yJ l[i]≠zn.yJ l[k]:=λi hi h=>by
     rcases Nat.lt_or_ge i j with h' | h'
     ·exact hno i hi h'
     ·obtain rfl:i=j:=by omega
      intro e;rw[(zn.alike_full nj NK.out).2 e]at ha
      cases ha
    have HNO:=qe hno;have HB:=qe hB;have uu:=qe yU;have HA:=qe ha;have NJ:=qe nj;clear hno hB yU ha nj;go_wp2_with fail;refine qp (by kernel_rfl) (by kernel_rfl) ?_
    repeat (with_reducible refine Hu (λK hK=>?_);go_simp;(try simp only[undef]);first | (with_reducible refine hK _ ?_;clear hK K) | (apply gW;refine⟨λ_=>?_,hK _ ?_⟩;(first | (go_at_call 132;with_reducible exact CP.out _));clear hK K) | (with_reducible refine⟨λ_ h=>(by cases h),?_⟩;with_reducible refine hK _ ?_;clear hK K))
    refine Hw ?_
    (try simp only[show Value.tuple #[]=undef from rfl])
    intro W hW;have hBW:Below wr.heap.size wr W:=by obtain⟨g,rfl⟩:=hW;exact qD _ g
    clear hW;have HBW:=qe (HB.out.trans (hBW.mono hsr));clear hBW;go_wp2_with fail
    go_roundw
    case rel=>exact⟨j+1,by omega,by go_num,uu.out,HBW.out⟩
    case measure=>simp[intOf];omega
   ·have CP:Hid (∀g,Calls Tryz.prog 132 #[yf l[j],yf l[k]] (gw wr g) λe w''=>e= .returned (.bool true)/\∃g',w''=gw wr g'):=qe λg=>qY (by rw[<- ha];exact ralike_any _ _ sj hso _);have hres:zn.jP l k=true:=zn.twice_hit hk hlt ((zn.alike_full nj NK.out).1 ha);have HNO:=qe hno;have HB:=qe hB;have HA:=qe ha;have NJ:=qe nj;have zK:=qe hres;clear hno hB ha nj hres;go_wp2_with fail;refine qp (by kernel_rfl) (by kernel_rfl) ?_
    repeat (with_reducible refine Hu (λK hK=>?_);go_simp;(try simp only[undef]);first | (with_reducible refine hK _ ?_;clear hK K) | (apply gW;refine⟨λ_=>?_,hK _ ?_⟩;(first | (go_at_call 132;with_reducible exact CP.out _));clear hK K) | (with_reducible refine⟨λ_ h=>(by cases h),?_⟩;with_reducible refine hK _ ?_;clear hK K))
    refine Hw ?_
    (try simp only[show Value.tuple #[]=undef from rfl])
    intro W hW;have hBW:Below wr.heap.size wr W:=by obtain⟨g,rfl⟩:=hW;exact qD _ g
    clear hW;have HBW:=qe (HB1.out.trans ((HB.out.trans (hBW.mono hsr)).mono hs1));clear hBW;go_wp2_with fail;go_ret;exact⟨qI zK.out.symm,HBW.out⟩
  ·obtain rfl:j=k:=by omega
   have hres:zn.jP l j=false:=zn.twice_miss hk hno;have HBE:=qe (HB1.out.trans (hB.mono hs1));have HNO:=qe hno;have HB:=qe hB;have zK:=qe hres;clear hno hB hres;go_wp2_with fail;go_ret;exact⟨qI zK.out.symm,HBE.out⟩
theorem rbreaks_5 (qf:ByteArray)(hap:qf.size<=1099511627776)(l:List Rec)(k:Nat)(hk:k<l.length)(hl:l.length<=2000)(hn:zn.jN l)(v:Value)(w:World)(hrv:ql w v l):
 Calls Tryz.prog 81 #[.int .i64 5,.string qf,v,.int .i64 k] w λe w'=>e= .returned (.bool (zn.Qj qf l k))/\Below w.heap.size w w':=by
 have hsz:∀r∈l,r.owner.size<=1099511627776:=λr hr=>by have:=qV (hn r hr);omega
 obtain⟨b,off,cap,rfl,hcap⟩:=uM hrv hk;obtain⟨hb,c0,c1,c2,c3,c4⟩:=qH hrv hk;have hki:(k:Int)<(l.length:Int):=by omega
 obtain⟨w1,hw1⟩:=yM (w.alloc (.cells (recC l[k]).toArray 80));obtain⟨hB1,hz1,hx⟩:=zf w w1 l[k] hw1;have Qr:=hrv.below hB1;have lt1:w.heap.size<w1.heap.size:=by omega
 have hso:=hsz l[k] (Ht hk);obtain⟨x0,x1,x2,x3,x4⟩:=id hx;have HW1:=qe hw1;have HB1:=qe hB1;have HZ1:=qe hz1;have HX:=qe hx;have HRV:=qe hrv;have ZX:=qe Qr;have HSZ:=qe hsz;clear hw1 hB1 hz1 hx hrv Qr hsz;have hs1:=HB1.out.size;by_cases h6:l[k].typ=6
 ·have b6:(l[k].typ != 6)=false:=by rw[h6];rfl
  have HN:=qe hn;have H6:=qe h6;clear hn h6
  go_enter Tryz.func81,Tryz.ntmps81
  go_wp2_with fail;rw[<- HW1.out];clear c0 c1 c2 c3 c4
  go_loop [11] (λjv=>∃j:Nat,j<=k/\jv= .int .i64 (j:Int)/\(∀i (hi:i<l.length),i<j->l[i].typ≠6)) (λjv=>k-(intOf jv).toNat)
  case atStart=>exact⟨0,gU _,rfl,(λi hi h=>by omega)⟩
  case round=>
   obtain⟨j,hj,rfl,hno⟩:=hrel;by_cases hlt:j<k
   ·have hjl:j<l.length:=by omega
    have hji:(j:Int)<(l.length:Int):=by omega
    obtain⟨hb',y0,y1,y2,y3,y4⟩:=qH ZX.out hjl;by_cases hj6:l[j].typ=6
    ·have bj:(l[j].typ == 6)=true:=by rw[Hz];exact hj6
     have hres:zn.Qj qf l k=true:=zn.soa_hit hk H6.out hlt hj6;have HNO:=qe hno;have HJ6:=qe hj6;have zK:=qe hres;clear hno hj6 hres;go_wp2_with fail;go_ret;exact⟨qI zK.out.symm,HB1.out⟩
    ·have bj:(l[j].typ == 6)=false:=by rw[gG];exact hj6
     have yU:∀i (hi:i<l.length),i<j+1->l[i].typ≠6:=λi hi h=>by
      rcases Nat.lt_or_ge i j with h' | h'
      ·exact hno i hi h'
      ·obtain rfl:i=j:=by omega
       exact hj6
     have HNO:=qe hno;have HJ6:=qe hj6;have uu:=qe yU;clear hno hj6 yU;go_wp2_with fail
     go_round
     case rel=>exact⟨j+1,by omega,by go_num,uu.out⟩
     case measure=>simp[intOf];omega
   ·obtain rfl:j=k:=by omega
    have hres:zn.Qj qf l j= !qG l[j].owner qf:=zn.soa_miss hk H6.out hno;have HNO:=qe hno;have zK:=qe hres;clear hno hres;go_wp2_with fail;refine(zT _ _ hso hap _).mono ?_;rintro e w2 ⟨rfl,hB2⟩;have HB2:=qe (gm HB1.out hB2);clear hB2;go_wp2_with fail;go_ret;exact⟨qI zK.out.symm,HB2.out⟩
 ·have b6:(l[k].typ != 6)=true:=by rw[bne_iff_ne];exact h6
  have hres:zn.Qj qf l k=false:=zn.soa_other hk h6;have HN:=qe hn;have H6:=qe h6;have zK:=qe hres;clear hn h6 hres
  go_enter Tryz.func81,Tryz.ntmps81
  go_wp2_with fail;go_ret;exact⟨qI zK.out.symm,by rw[<- HW1.out];exact HB1.out⟩
theorem rbreaks_6 (qf:ByteArray)(l:List Rec)(k:Nat)(hk:k<l.length)(_hl:l.length<=2000)(hn:zn.jN l)(v:Value)(w:World)(hrv:ql w v l):
 Calls Tryz.prog 81 #[.int .i64 6,.string qf,v,.int .i64 k] w λe w'=>e= .returned (.bool false)/\Below w.heap.size w w':=by
 have hsz:∀r∈l,r.owner.size<=1099511627776:=λr hr=>by have:=qV (hn r hr);omega
 obtain⟨b,off,cap,rfl,hcap⟩:=uM hrv hk;obtain⟨hb,c0,c1,c2,c3,c4⟩:=qH hrv hk;have hki:(k:Int)<(l.length:Int):=by omega
 obtain⟨w1,hw1⟩:=yM (w.alloc (.cells (recC l[k]).toArray 80));obtain⟨hB1,hz1,hx⟩:=zf w w1 l[k] hw1;have Qr:=hrv.below hB1;have lt1:w.heap.size<w1.heap.size:=by omega
 have hso:=hsz l[k] (Ht hk);obtain⟨x0,x1,x2,x3,x4⟩:=id hx;have HW1:=qe hw1;have HB1:=qe hB1;have HZ1:=qe hz1;have HX:=qe hx;have HRV:=qe hrv;have ZX:=qe Qr;have HSZ:=qe hsz;clear hw1 hB1 hz1 hx hrv Qr hsz;have hs1:=HB1.out.size
 go_enter Tryz.func81,Tryz.ntmps81
 go_wp2_with fail;go_ret;exact⟨rfl,by rw[<- HW1.out];exact HB1.out⟩
theorem rbreaks_7 (qf:ByteArray)(l:List Rec)(k:Nat)(hk:k<l.length)(_hl:l.length<=2000)(hn:zn.jN l)(v:Value)(w:World)(hrv:ql w v l):
 Calls Tryz.prog 81 #[.int .i64 7,.string qf,v,.int .i64 k] w λe w'=>e= .returned (.bool (zn.Zh l[k]))/\Below w.heap.size w w':=by
 have hsz:∀r∈l,r.owner.size<=1099511627776:=λr hr=>by have:=qV (hn r hr);omega
 obtain⟨b,off,cap,rfl,hcap⟩:=uM hrv hk;obtain⟨hb,c0,c1,c2,c3,c4⟩:=qH hrv hk;have hki:(k:Int)<(l.length:Int):=by omega
 obtain⟨w1,hw1⟩:=yM (w.alloc (.cells (recC l[k]).toArray 80));obtain⟨hB1,hz1,hx⟩:=zf w w1 l[k] hw1;have Qr:=hrv.below hB1;have lt1:w.heap.size<w1.heap.size:=by omega
 have hso:=hsz l[k] (Ht hk);obtain⟨x0,x1,x2,x3,x4⟩:=id hx;have HW1:=qe hw1;have HB1:=qe hB1;have HZ1:=qe hz1;have HX:=qe hx;have HRV:=qe hrv;have ZX:=qe Qr;have HSZ:=qe hsz;clear hw1 hB1 hz1 hx hrv Qr hsz;have hs1:=HB1.out.size;by_cases h2:l[k].typ=2
 ·have b2:(l[k].typ == 2)=true:=by rw[Hz];exact h2
  have hr:zn.Zh l[k]=kM l[k].owner:=by unfold zn.Zh;rw[gF h2];simp
  have H2:=qe h2;have HR:=qe hr;clear h2 hr
  go_enter Tryz.func81,Tryz.ntmps81
  go_wp2_with fail;rw[<- HW1.out];refine(Xa _ hso _).mono ?_;rintro e w2 ⟨rfl,hB2⟩;have HB2:=qe (gm HB1.out hB2);clear hB2;go_wp2_with fail;go_ret;exact⟨qI HR.out.symm,HB2.out⟩
 ·have b2:(l[k].typ == 2)=false:=by rw[gG];exact h2
  by_cases h39:l[k].typ=39
  ·have b3:(l[k].typ == 39)=true:=by rw[Hz];exact h39
   have hr:zn.Zh l[k]=kM l[k].owner:=by unfold zn.Zh;rw[gF h39];simp
   have H2:=qe h2;have H39:=qe h39;have HR:=qe hr;clear h2 h39 hr
   go_enter Tryz.func81,Tryz.ntmps81
   go_wp2_with fail;rw[<- HW1.out];refine(Xa _ hso _).mono ?_;rintro e w2 ⟨rfl,hB2⟩;have HB2:=qe (gm HB1.out hB2);clear hB2;go_wp2_with fail;go_ret;exact⟨qI HR.out.symm,HB2.out⟩
  ·have b3:(l[k].typ == 39)=false:=by rw[gG];exact h39
   have hr:zn.Zh l[k]=false:=by unfold zn.Zh;rw[gp h2,gp h39];rfl
   have H2:=qe h2;have H39:=qe h39;have HR:=qe hr;clear h2 h39 hr
   go_enter Tryz.func81,Tryz.ntmps81
   go_wp2_with fail;go_ret;exact⟨qI HR.out.symm,by rw[<- HW1.out];exact HB1.out⟩
theorem rbreaks_8 (qf:ByteArray)(l:List Rec)(k:Nat)(hk:k<l.length)(hl:l.length<=2000)(hn:zn.jN l)(v:Value)(w:World)(hrv:ql w v l):
 Calls Tryz.prog 81 #[.int .i64 8,.string qf,v,.int .i64 k] w λe w'=>e= .returned (.bool (zn.YE (zn.kZ l) l[k]))/\Below w.heap.size w w':=by
 have hsz:∀r∈l,r.owner.size<=1099511627776:=λr hr=>by have:=qV (hn r hr);omega
 obtain⟨b,off,cap,rfl,hcap⟩:=uM hrv hk;obtain⟨hb,c0,c1,c2,c3,c4⟩:=qH hrv hk;have hki:(k:Int)<(l.length:Int):=by omega
 obtain⟨w1,hw1⟩:=yM (w.alloc (.cells (recC l[k]).toArray 80));obtain⟨hB1,hz1,hx⟩:=zf w w1 l[k] hw1;have Qr:=hrv.below hB1;have lt1:w.heap.size<w1.heap.size:=by omega
 have hso:=hsz l[k] (Ht hk);obtain⟨x0,x1,x2,x3,x4⟩:=id hx;have HW1:=qe hw1;have HB1:=qe hB1;have HZ1:=qe hz1;have HX:=qe hx;have HRV:=qe hrv;have ZX:=qe Qr;have HSZ:=qe hsz;clear hw1 hB1 hz1 hx hrv Qr hsz;have hs1:=HB1.out.size;have HN:=qe hn;clear hn
 go_enter Tryz.func81,Tryz.ntmps81
 go_wp2_with fail;rw[<- HW1.out];clear c0 c1 c2 c3 c4 x0 x1 x2 x3 x4
 go_loopw [110,12] (λjv _ wr=>∃j:Nat,j<=l.length/\jv= .int .i64 (j:Int)/\(∀i (hi:i<l.length),i<j->i≠k->¬(l[k].typ=5/\qG l[i].owner l[k].owner=true/\l[i].typ≠46/\l[i].typ≠47))/\Below w1.heap.size w1 wr) (λjv _ _=>l.length-(intOf jv).toNat)
 case atStart=>exact⟨0,gU _,rfl,(λi hi h=>by omega),gJ _ _⟩
 case round=>
  obtain⟨j,hj,rfl,hno,hB⟩:=hrel;by_cases hjl:j<l.length
  ·have hji:(j:Int)<(l.length:Int):=by omega
   obtain⟨hb',ra⟩:=qH ZX.out hjl;obtain⟨y0,y1,y2,y3,y4⟩:=ra.keep (hB.block _ hb');obtain⟨x0,x1,x2,x3,x4⟩:=HX.out.keep (hB.block _ lt1);have e0:=qh y0;have e1:=qh y1;have e3:=qh y3;have f0:=qh x0;have f1:=qh x1;have f3:=qh x3;have sj:=HSZ.out _ (Ht hjl);have hsr:=hB.size;clear x0 x1 x2 x3 x4 y0 y1 y2 y3 y4;by_cases h5:l[k].typ=5
   ·have b5:(l[k].typ == 5)=true:=by rw[Hz];exact h5
    by_cases hjk:j=k
    ·have bj:((j:Int) != (k:Int))=false:=by rw[hjk];simp
     have yU:∀i (hi:i<l.length),i<j+1->i≠k->¬(l[k].typ=5/\qG l[i].owner l[k].owner=true/\l[i].typ≠46/\l[i].typ≠47):=λi hi h hne=>by
      rcases Nat.lt_or_ge i j with h' | h'
      ·exact hno i hi h' hne
      ·exact absurd (show i=k by omega) hne
     have CE:Hid True:=qe trivial;have H5:=qe h5;have HJK:=qe hjk;clear h5 hjk;have HNO:=qe hno;have HB:=qe hB;have uu:=qe yU;clear hno hB yU;go_wp2_with fail;refine qp (by kernel_rfl) (by kernel_rfl) ?_
     repeat (with_reducible refine Hu (λK hK=>?_);go_simp;(try simp only[undef]);first | (with_reducible refine hK _ ?_;clear hK K) | (apply gW;refine⟨λ_=>?_,hK _ ?_⟩;(first | (fail));clear hK K) | (with_reducible refine⟨λ_ h=>(by cases h),?_⟩;with_reducible refine hK _ ?_;clear hK K))
     refine Hw ?_
     (try simp only[show Value.tuple #[]=undef from rfl])
     intro W hW;have hBW:Below wr.heap.size wr W:=by obtain⟨g,rfl⟩:=hW;exact qD _ g
     clear hW;have HBW:=qe (HB.out.trans (hBW.mono hsr));clear hBW;go_wp2_with fail
     go_roundw
     case rel=>exact⟨j+1,by omega,by go_num,uu.out,HBW.out⟩
     case measure=>simp[intOf];omega
    ·have bj:((j:Int) != (k:Int))=true:=by rw[bne_iff_ne];omega
     cases he:qG l[j].owner l[k].owner
     ·have yU:∀i (hi:i<l.length),i<j+1->i≠k->¬(l[k].typ=5/\qG l[i].owner l[k].owner=true/\l[i].typ≠46/\l[i].typ≠47):=λi hi h hne=>by
       rcases Nat.lt_or_ge i j with h' | h'
       ·exact hno i hi h' hne
       ·obtain rfl:i=j:=by omega
        rintro⟨_,h2,_⟩;rw[he]at h2
        cases h2
      have CE:Hid (∀g,Calls Tryz.prog 55 #[.string l[j].owner,.string l[k].owner] (gw wr g) λe w''=>e= .returned (.bool false)/\∃g',w''=gw wr g'):=qe λg=>qY (by rw[<- he];exact zT _ _ sj hso _);have H5:=qe h5;have HE:=qe he;clear h5 he;have HNO:=qe hno;have HB:=qe hB;have uu:=qe yU;clear hno hB yU;go_wp2_with fail;refine qp (by kernel_rfl) (by kernel_rfl) ?_
      repeat (with_reducible refine Hu (λK hK=>?_);go_simp;(try simp only[undef]);first | (with_reducible refine hK _ ?_;clear hK K) | (apply gW;refine⟨λ_=>?_,hK _ ?_⟩;(first | (go_at_call 55;with_reducible exact CE.out _));clear hK K) | (with_reducible refine⟨λ_ h=>(by cases h),?_⟩;with_reducible refine hK _ ?_;clear hK K))
      refine Hw ?_
      (try simp only[show Value.tuple #[]=undef from rfl])
      intro W hW;have hBW:Below wr.heap.size wr W:=by obtain⟨g,rfl⟩:=hW;exact qD _ g
      clear hW;have HBW:=qe (HB.out.trans (hBW.mono hsr));clear hBW;go_wp2_with fail
      go_roundw
      case rel=>exact⟨j+1,by omega,by go_num,uu.out,HBW.out⟩
      case measure=>simp[intOf];omega
     ·by_cases h46:l[j].typ=46
      ·have b46:(l[j].typ != 46)=false:=by rw[h46];rfl
       have yU:∀i (hi:i<l.length),i<j+1->i≠k->¬(l[k].typ=5/\qG l[i].owner l[k].owner=true/\l[i].typ≠46/\l[i].typ≠47):=λi hi h hne=>by
        rcases Nat.lt_or_ge i j with h' | h'
        ·exact hno i hi h' hne
        ·obtain rfl:i=j:=by omega
         rintro⟨_,_,h2,_⟩;exact h2 h46
       have CE:Hid (∀g,Calls Tryz.prog 55 #[.string l[j].owner,.string l[k].owner] (gw wr g) λe w''=>e= .returned (.bool true)/\∃g',w''=gw wr g'):=qe λg=>qY (by rw[<- he];exact zT _ _ sj hso _);have H5:=qe h5;have HE:=qe he;have H46:=qe h46;clear h5 he h46;have HNO:=qe hno;have HB:=qe hB;have uu:=qe yU;clear hno hB yU;go_wp2_with fail;refine qp (by kernel_rfl) (by kernel_rfl) ?_
       repeat (with_reducible refine Hu (λK hK=>?_);go_simp;(try simp only[undef]);first | (with_reducible refine hK _ ?_;clear hK K) | (apply gW;refine⟨λ_=>?_,hK _ ?_⟩;(first | (go_at_call 55;with_reducible exact CE.out _));clear hK K) | (with_reducible refine⟨λ_ h=>(by cases h),?_⟩;with_reducible refine hK _ ?_;clear hK K))
       refine Hw ?_
       (try simp only[show Value.tuple #[]=undef from rfl])
       intro W hW;have hBW:Below wr.heap.size wr W:=by obtain⟨g,rfl⟩:=hW;exact qD _ g
       clear hW;have HBW:=qe (HB.out.trans (hBW.mono hsr));clear hBW;go_wp2_with fail
       go_roundw
       case rel=>exact⟨j+1,by omega,by go_num,uu.out,HBW.out⟩
       case measure=>simp[intOf];omega
      ·have b46:(l[j].typ != 46)=true:=by rw[bne_iff_ne];exact h46
       by_cases h47:l[j].typ=47
       ·have b47:(l[j].typ != 47)=false:=by rw[h47];rfl
        have yU:∀i (hi:i<l.length),i<j+1->i≠k->¬(l[k].typ=5/\qG l[i].owner l[k].owner=true/\l[i].typ≠46/\l[i].typ≠47):=λi hi h hne=>by
         rcases Nat.lt_or_ge i j with h' | h'
         ·exact hno i hi h' hne
         ·obtain rfl:i=j:=by omega
          rintro⟨_,_,_,h2⟩;exact h2 h47
        have CE:Hid (∀g,Calls Tryz.prog 55 #[.string l[j].owner,.string l[k].owner] (gw wr g) λe w''=>e= .returned (.bool true)/\∃g',w''=gw wr g'):=qe λg=>qY (by rw[<- he];exact zT _ _ sj hso _);have H5:=qe h5;have HE:=qe he;have H46:=qe h46;have H47:=qe h47;clear h5 he h46 h47;have HNO:=qe hno;have HB:=qe hB;have uu:=qe yU;clear hno hB yU;go_wp2_with fail;refine qp (by kernel_rfl) (by kernel_rfl) ?_
        repeat (with_reducible refine Hu (λK hK=>?_);go_simp;(try simp only[undef]);first | (with_reducible refine hK _ ?_;clear hK K) | (apply gW;refine⟨λ_=>?_,hK _ ?_⟩;(first | (go_at_call 55;with_reducible exact CE.out _));clear hK K) | (with_reducible refine⟨λ_ h=>(by cases h),?_⟩;with_reducible refine hK _ ?_;clear hK K))
        refine Hw ?_
        (try simp only[show Value.tuple #[]=undef from rfl])
        intro W hW;have hBW:Below wr.heap.size wr W:=by obtain⟨g,rfl⟩:=hW;exact qD _ g
        clear hW;have HBW:=qe (HB.out.trans (hBW.mono hsr));clear hBW;go_wp2_with fail
        go_roundw
        case rel=>exact⟨j+1,by omega,by go_num,uu.out,HBW.out⟩
        case measure=>simp[intOf];omega
       ·have b47:(l[j].typ != 47)=true:=by rw[bne_iff_ne];exact h47
        have hres:zn.YE (zn.kZ l) l[k]=true:=zn.bad4_hit hk hjl hjk h5 HN.out he h46 h47;have CE:Hid (∀g,Calls Tryz.prog 55 #[.string l[j].owner,.string l[k].owner] (gw wr g) λe w''=>e= .returned (.bool true)/\∃g',w''=gw wr g'):=qe λg=>qY (by rw[<- he];exact zT _ _ sj hso _);have H5:=qe h5;have HE:=qe he;have H46:=qe h46;have H47:=qe h47;have HNO:=qe hno;have HB:=qe hB;have zK:=qe hres;clear h5 he h46 h47 hno hB hres;go_wp2_with fail;refine qp (by kernel_rfl) (by kernel_rfl) ?_
        repeat (with_reducible refine Hu (λK hK=>?_);go_simp;(try simp only[undef]);first | (with_reducible refine hK _ ?_;clear hK K) | (apply gW;refine⟨λ_=>?_,hK _ ?_⟩;(first | (go_at_call 55;with_reducible exact CE.out _));clear hK K) | (with_reducible refine⟨λ_ h=>(by cases h),?_⟩;with_reducible refine hK _ ?_;clear hK K))
        refine Hw ?_
        (try simp only[show Value.tuple #[]=undef from rfl])
        intro W hW;have hBW:Below wr.heap.size wr W:=by obtain⟨g,rfl⟩:=hW;exact qD _ g
        clear hW;have HBW:=qe (HB1.out.trans ((HB.out.trans (hBW.mono hsr)).mono hs1));clear hBW;go_wp2_with fail;go_ret;exact⟨qI zK.out.symm,HBW.out⟩
   ·have b5:(l[k].typ == 5)=false:=by rw[gG];exact h5
    have yU:∀i (hi:i<l.length),i<j+1->i≠k->¬(l[k].typ=5/\qG l[i].owner l[k].owner=true/\l[i].typ≠46/\l[i].typ≠47):=λi hi h hne h2=>h5 h2.1;have H5:=qe h5;have HNO:=qe hno;have HB:=qe hB;have uu:=qe yU;clear h5 hno hB yU;go_wp2_with fail;refine qp (by kernel_rfl) (by kernel_rfl) ?_
    repeat (with_reducible refine Hu (λK hK=>?_);go_simp;(try simp only[undef]);first | (with_reducible refine hK _ ?_;clear hK K) | (apply gW;refine⟨λ_=>?_,hK _ ?_⟩;(first | (fail));clear hK K) | (with_reducible refine⟨λ_ h=>(by cases h),?_⟩;with_reducible refine hK _ ?_;clear hK K))
    refine Hw ?_
    (try simp only[show Value.tuple #[]=undef from rfl])
    intro W hW;have hBW:Below wr.heap.size wr W:=by obtain⟨g,rfl⟩:=hW;exact qD _ g
    clear hW;have HBW:=qe (HB.out.trans (hBW.mono hsr));clear hBW;go_wp2_with fail
    go_roundw
    case rel=>exact⟨j+1,by omega,by go_num,uu.out,HBW.out⟩
    case measure=>simp[intOf];omega
  ·obtain rfl:j=l.length:=by omega
   have hres:zn.YE (zn.kZ l) l[k]=false:=by
    by_cases h5:l[k].typ=5
    ·exact zn.bad4_miss hk HN.out (λj hj hne h=>hno j hj hj hne ⟨h5,h.1,h.2.1,h.2.2⟩)
    ·exact zn.bad4_other h5
   have HBE:=qe (HB1.out.trans (hB.mono hs1));have HNO:=qe hno;have HB:=qe hB;have zK:=qe hres;clear hno hB hres;go_wp2_with fail;go_ret;exact⟨qI zK.out.symm,HBE.out⟩
end Go.Proofs.YtpcmilhjpmlbpaaGreatDoor
