import Derived.Test.YtpcmilhjpmlbpaaGreatDoorQRefF
import Derived.Test.YtpcmilhjpmlbpaaGreatDoorQRefP
import Derived.Deep.LoopGhost
import Derived.Deep.RegionHeld3
set_option maxRecDepth 100000
set_option maxHeartbeats 2000000
namespace Go.Proofs.YtpcmilhjpmlbpaaGreatDoor
open Go.RowKit Go.Shelf Go.WideMaps nm od
namespace zn
end zn
structure jA (w:World)(top z:Nat)(qg:ByteArray)(L:List Rec):Prop where
 v:QD w top z qg L
 small:L.length≤2000
 named:zn.jN L
 sorted:L.Pairwise (fun a b=>zn.zZ a b≤0)
theorem jA.kept {w w':World}{top z:Nat}{qg:ByteArray}{L:List Rec}(h:jA w top z qg L)(hb:Below w.heap.size w w'):jA w' top z qg L:=
 ⟨h.v.below (hb.mono h.v.1),h.small,h.named,h.sorted⟩
theorem fnd_store {B g:Nat}{w wc:World}{T:TypeId}{a0 a1 a2 a3 a4:Value}(h:wc.heap[g]? =some (.cells #[a0,a1,a2,a3,a4] T (0,0)))(hB:Below B w wc)(hg:B≤g)(v0 v1 v2 v3 v4:Value):
 (((((wc.setCell ⟨g,0,none⟩ v0).setCell ⟨g,1,none⟩ v1).setCell ⟨g,2,none⟩ v2).setCell ⟨g,3,none⟩ v3).setCell ⟨g,4,none⟩ v4).heap[g]? =some (.cells #[v0,v1,v2,v3,v4] T (0,0))∧
 Below B w (((((wc.setCell ⟨g,0,none⟩ v0).setCell ⟨g,1,none⟩ v1).setCell ⟨g,2,none⟩ v2).setCell ⟨g,3,none⟩ v3).setCell ⟨g,4,none⟩ v4)∧
 ∀b,b≠g→(((((wc.setCell ⟨g,0,none⟩ v0).setCell ⟨g,1,none⟩ v1).setCell ⟨g,2,none⟩ v2).setCell ⟨g,3,none⟩ v3).setCell ⟨g,4,none⟩ v4).heap[b]? =wc.heap[b]?:=by
 refine⟨qC (qC (qC (qC (qC h 0 v0) 1 v1) 2 v2) 3 v3) 4 v4,((((hB.setCell hg _).setCell hg _).setCell hg _).setCell hg _).setCell hg _,fun b hb=>?_⟩;rw[Below.heap_setCell _ _ _ _ hb,Below.heap_setCell _ _ _ _ hb,Below.heap_setCell _ _ _ _ hb,Below.heap_setCell _ _ _ _ hb,Below.heap_setCell _ _ _ _ hb]
end Go.Proofs.YtpcmilhjpmlbpaaGreatDoor
namespace Go.Proofs.YtpcmilhjpmlbpaaGreatDoor
open Go.RowKit Go.Shelf nm od
namespace zn
theorem cmpInt_neg (a b:Int):Lib.compareInt a b<0↔a<b:=by
 unfold Lib.compareInt
 split
 ·omega
 ·split <;> omega
theorem cmpBytes_neg (x y:List UInt8):Lib.compareBytes x y<0↔Op.bytesLess x y=true:=by
 obtain⟨h1,h2,h3⟩:=Vz x y
 cases hl:Op.bytesLess x y
 ·cases he:x == y
  ·rw[h3 hl he];simp
  ·rw[h2 he];simp
 ·rw[h1 hl];simp
theorem ord_le {a b:Rec}(ha:qo a.owner=true)(hb:qo b.owner=true):zZ a b≤0↔0≤zZ b a:=Yb.le ⟨a,ha⟩ ⟨b,hb⟩
theorem ord_trans {a b d:Rec}(ha:qo a.owner=true)(hb:qo b.owner=true)(hd:qo d.owner=true)(h1:zZ a b≤0)(h2:zZ b d≤0):zZ a d≤0:=Yb.trans ⟨a,ha⟩ ⟨b,hb⟩ ⟨d,hd⟩ h1 h2
end zn
theorem VS (x y:Rec)(hx:x.owner.size≤1099511627776)(hy:y.owner.size≤1099511627776)(w:World):
 Calls Tryz.prog 134 #[ym x,ym y] w fun e w'=>e= .returned (.bool (decide (zn.zZ x y<0)))∧Below w.heap.size w w':=by
 have hB2:=qe (((Below.refl _ w).alloc (Nat.le_refl _) (.cells (recC x).toArray 80)).alloc (by simp) (.cells (recC y).toArray 80));have cx:=fun j v h=>qw (.cells (recC y).toArray 80) (qZ w x 80 j v h);have cy:=fun j v h=>qZ (w.alloc (.cells (recC x).toArray 80)) y 80 j v h;simp only[World.size_alloc]at cy;have hif:=od.Vk x y;obtain⟨w2,hw2⟩:∃W,W=(w.alloc (.cells (recC x).toArray 80)).alloc (.cells (recC y).toArray 80):=⟨_,rfl⟩;rw[← hw2]at hB2 cx cy;have hz2:w2.heap.size=w.heap.size+2:=by rw[hw2];simp
 have f0:=cx 0 _ rfl;have f1:=cx 1 _ rfl;have f4:=cx 4 _ rfl;have g0:=cy 0 _ rfl;have g1:=cy 1 _ rfl;have g4:=cy 4 _ rfl;have lt0:w.heap.size<w2.heap.size:=by omega
 have lt1:w.heap.size+1<w2.heap.size:=by omega
 clear cx cy hz2;have HW2:=qe hw2;have HIF:=qe hif;clear hw2 hif
 go_enter Tryz.func134,Tryz.ntmps134
 go_wp2_with fail;rw[← HW2.out];refine(rcompare_any _ _ hx hy _).mono ?_;rintro e w3 ⟨rfl,hB3⟩;have d1:=(hB3.cell (p:=⟨w.heap.size,1,none⟩) lt0).trans f1;have d4:=(hB3.cell (p:=⟨w.heap.size,4,none⟩) lt0).trans f4;have k1:=(hB3.cell (p:=⟨w.heap.size+1,1,none⟩) lt1).trans g1;have k4:=(hB3.cell (p:=⟨w.heap.size+1,4,none⟩) lt1).trans g4;have HB3:=qe (hB2.out.trans (hB3.mono hB2.out.size));clear hB3 f0 f1 f4 g0 g1 g4 lt0 lt1;by_cases hc:zk x.owner y.owner=0
 ·have bc:(zk x.owner y.owner != 0)=false:=by rw[hc];rfl
  have Vv:=HIF.out;rw[if_pos hc]at Vv;by_cases ht:x.typ=y.typ
  ·have bt:(x.typ != y.typ)=false:=by rw[ht];simp
   rw[if_pos ((od.int_zero _ _).2 ht)]at Vv;have hres:decide (zn.zZ x y<0)=Op.bytesLess (dt.yj x.typ x.data).toList (dt.yj y.typ y.data).toList:=by
    rw[Vv,Bool.eq_iff_iff,decide_eq_true_iff,zn.cmpBytes_neg,Lib.toList_data,Lib.toList_data]
   have e1:=qf d1;have e2:=qf d4;have e3:=qf k1;have e4:=qf k4;have CP:Hid (∀g,Calls Tryz.prog 175 #[.int .i64 x.typ,.string x.data] (gw w3 g) fun e w''=>e= .returned (.string (dt.yj x.typ x.data))∧∃g',w''=gw w3 g'):=qe fun g=>qV (YD _ _ _);have CQ:Hid (∀g,Calls Tryz.prog 175 #[.int .i64 y.typ,.string y.data] (gw w3 g) fun e w''=>e= .returned (.string (dt.yj y.typ y.data))∧∃g',w''=gw w3 g'):=qe fun g=>qV (YD _ _ _);have HC:=qe hc;have HT:=qe ht;have HIF2:=qe Vv;have zH:=qe hres;clear hc ht Vv hres;go_wp2_with fail;refine ql (by kernel_rfl) (by kernel_rfl) ?_
   repeat (refine wpQuiet_step (fun K hK=>?_);go_simp;(try simp only[undef]);first | (with_reducible refine hK _ ?_;clear hK K) | (apply Exists.intro;refine⟨fun _=>?_,hK _ ?_⟩;(first | (go_at_call 175;first | with_reducible exact CP.out _ | with_reducible exact CQ.out _));clear hK K) | (refine⟨fun _ h=>(by cases h),?_⟩;with_reducible refine hK _ ?_;clear hK K))
   refine wpQuiet_nil ?_;intro W hW;have hBW:Below w3.heap.size w3 W:=by obtain⟨g,rfl⟩:=hW;exact qB _ g
   clear hW;go_wp2_with fail;go_ret;exact⟨qH zH.out.symm,HB3.out.trans (hBW.mono HB3.out.size)⟩
  ·have bt:(x.typ != y.typ)=true:=by rw[bne_iff_ne];exact ht
   have hz:Lib.compareInt x.typ y.typ≠0:=fun h=>ht ((od.int_zero _ _).1 h);rw[if_neg hz]at Vv;have hres:decide (zn.zZ x y<0)=decide (x.typ<y.typ):=by rw[Vv];exact decide_eq_decide.2 (zn.cmpInt_neg _ _)
   have HC:=qe hc;have HT:=qe ht;have HIF2:=qe Vv;have zH:=qe hres;have HZ:=qe hz;clear hc ht Vv hres hz;go_wp2_with fail;go_ret;exact⟨qH zH.out.symm,HB3.out⟩
 ·have bc:(zk x.owner y.owner != 0)=true:=by rw[bne_iff_ne];exact hc
  have Vv:=HIF.out;rw[if_neg hc]at Vv;have HC:=qe hc;have HIF2:=qe Vv;clear hc Vv;go_wp2_with fail;go_ret;exact⟨qH (by rw[HIF2.out]),HB3.out⟩
namespace zn
abbrev Sd (l:List Rec):Prop:=l.Pairwise (fun a b=>zZ a b≤0)
structure uR (l A B O:List Rec)(i j:Nat):Prop where
 perm:(O ++ (A.drop i ++ B.drop j)).Perm l
 so:Sd O
 low:∀o∈O,∀x∈A.drop i ++ B.drop j,zZ o x≤0
 sa:Sd A
 sb:Sd B
 nm:jN l
theorem uR.start {l A B:List Rec}{k:Nat}(ha:zS (l.take k) A)(hb:zS (l.drop k) B)(hn:jN l):uR l A B [] 0 0 where
 perm:=by
  rw[List.nil_append,List.drop_zero,List.drop_zero];exact((ha.1.append hb.1).trans (by rw[List.take_append_drop]))
 so:=List.Pairwise.nil
 low:=fun o ho=>by simp at ho
 sa:=ha.2
 sb:=hb.2
 nm:=hn
theorem XD {l:List Rec}{i:Nat}(hs:Sd l)(hi:i<l.length)(hself:zZ l[i] l[i]≤0):∀x∈l.drop i,zZ l[i] x≤0:=fun x hx=>by
 rw[List.drop_eq_getElem_cons hi]at hx;rcases List.mem_cons.1 hx with rfl | hx
 ·exact hself
 ·have h:=List.Pairwise.drop (i:=i) hs;rw[List.drop_eq_getElem_cons hi,List.pairwise_cons]at h;exact h.1 x hx
theorem uR.named {l A B O:List Rec}{i j:Nat}(h:uR l A B O i j):(∀x∈O,qo x.owner=true)∧(∀x∈A.drop i,qo x.owner=true)∧(∀x∈B.drop j,qo x.owner=true):=
 ⟨fun x hx=>h.nm x (h.perm.mem_iff.1 (by simp[hx])),fun x hx=>h.nm x (h.perm.mem_iff.1 (by simp[hx])),fun x hx=>h.nm x (h.perm.mem_iff.1 (by simp[hx]))⟩
theorem Uo {a:Rec}(h:qo a.owner=true):zZ a a≤0:=by
 have:=Yb.self ⟨a,h⟩;have h2:zZ a a=0:=this;omega
theorem uF {l:List Rec}{i:Nat}(h:i<l.length):l[i]∈l.drop i:=by rw[List.drop_eq_getElem_cons h];exact List.mem_cons_self ..
theorem uR.left {l A B O:List Rec}{i j:Nat}(h:uR l A B O i j)(hi:i<A.length)(hle:∀(hj:j<B.length),zZ A[i] B[j]≤0):uR l A B (O ++ [A[i]]) (i+1) j:=by
 obtain⟨n1,n2,n3⟩:=h.named;have hs:=Uo (n2 _ (uF hi));have e:=List.drop_eq_getElem_cons hi;have hp:=h.perm;have hl:=h.low;rw[e]at hp hl;refine⟨?_,?_,?_,h.sa,h.sb,h.nm⟩
 ·rw[List.append_assoc];exact hp
 ·refine List.pairwise_append.2 ⟨h.so,List.pairwise_singleton ..,fun a ha b hb=>?_⟩;rw[List.mem_singleton]at hb;subst hb;exact hl a ha _ (List.mem_append.2 (.inl (List.mem_cons_self ..)))
 ·intro o ho x hx;rcases List.mem_append.1 ho with ho | ho
  ·exact hl o ho x (by
    rcases List.mem_append.1 hx with hx | hx
    ·exact List.mem_append.2 (.inl (List.mem_cons_of_mem _ hx))
    ·exact List.mem_append.2 (.inr hx))
  ·rw[List.mem_singleton]at ho;subst ho;rcases List.mem_append.1 hx with hx | hx
   ·exact XD h.sa hi hs x (by rw[e];exact List.mem_cons_of_mem _ hx)
   ·have hj:j<B.length:=by
     rcases Nat.lt_or_ge j B.length with h' | h'
     ·exact h'
     ·rw[List.drop_of_length_le h']at hx;simp at hx
    have hb:=XD h.sb hj (Uo (n3 _ (uF hj))) x hx;exact ord_trans (n2 _ (uF hi)) (n3 _ (uF hj)) (n3 x hx) (hle hj) hb
theorem uR.right {l A B O:List Rec}{i j:Nat}(h:uR l A B O i j)(hj:j<B.length)(hle:∀(hi:i<A.length),zZ B[j] A[i]≤0):uR l A B (O ++ [B[j]]) i (j+1):=by
 obtain⟨n1,n2,n3⟩:=h.named;have hs:=Uo (n3 _ (uF hj));have e:=List.drop_eq_getElem_cons hj;have hp:=h.perm;have hl:=h.low;rw[e]at hp hl;refine⟨?_,?_,?_,h.sa,h.sb,h.nm⟩
 ·rw[List.append_assoc];refine List.Perm.trans ?_ hp;refine List.Perm.append_left O ?_;rw[List.singleton_append];exact List.perm_middle.symm
 ·refine List.pairwise_append.2 ⟨h.so,List.pairwise_singleton ..,fun a ha b hb=>?_⟩;rw[List.mem_singleton]at hb;subst hb;exact hl a ha _ (List.mem_append.2 (.inr (List.mem_cons_self ..)))
 ·intro o ho x hx;rcases List.mem_append.1 ho with ho | ho
  ·exact hl o ho x (by
    rcases List.mem_append.1 hx with hx | hx
    ·exact List.mem_append.2 (.inl hx)
    ·exact List.mem_append.2 (.inr (List.mem_cons_of_mem _ hx)))
  ·rw[List.mem_singleton]at ho;subst ho;rcases List.mem_append.1 hx with hx | hx
   ·have hi:i<A.length:=by
     rcases Nat.lt_or_ge i A.length with h' | h'
     ·exact h'
     ·rw[List.drop_of_length_le h']at hx;simp at hx
    have ha:=XD h.sa hi (Uo (n2 _ (uF hi))) x hx;exact ord_trans (n3 _ (uF hj)) (n2 _ (uF hi)) (n2 x hx) (hle hi) ha
   ·exact XD h.sb hj hs x (by rw[e];exact List.mem_cons_of_mem _ hx)
theorem uR.done {l A B O:List Rec}{i j:Nat}(h:uR l A B O i j)(hi:A.length≤i)(hj:B.length≤j):zS l O:=by
 have hp:=h.perm;rw[List.drop_of_length_le hi,List.drop_of_length_le hj,List.append_nil,List.append_nil]at hp;exact⟨hp,h.so⟩
theorem uR.len {l A B O:List Rec}{i j:Nat}(h:uR l A B O i j):O.length+(A.length-i)+(B.length-j)=l.length:=by
 have:=h.perm.length_eq;simp at this;omega
theorem Ub {l:List Rec}(h:l.length<2):zS l l:=⟨List.Perm.refl _,by
 match l,h with
 | [],_=>exact List.Pairwise.nil
 | [a],_=>exact List.pairwise_singleton ..⟩
end zn
theorem Zz {w:World}{b off n cap k:Nat}{l:List Rec}(h:qm w (.slice (some ⟨b,off,none⟩) n cap) l)(hk:k≤l.length):qm w (.slice (some ⟨b,off,none⟩) k cap) (l.take k):=by
 obtain⟨a,c,hv,hc,hr⟩:=h;simp only[Value.slice.injEq]at hv;obtain⟨rfl,rfl,rfl⟩:=hv;refine⟨_,cap,by rw[List.length_take,Nat.min_eq_left hk],by rw[List.length_take];omega,fun j hj=>?_⟩;rw[List.length_take]at hj;rw[List.getElem_take];exact hr j (by omega)
theorem VR {w:World}{b off n cap k:Nat}{l:List Rec}(h:qm w (.slice (some ⟨b,off,none⟩) n cap) l)(hk:k≤l.length):qm w (.slice (some ⟨b,off+k*5,none⟩) (n-k) (cap-k)) (l.drop k):=by
 obtain⟨a,c,hv,hc,hr⟩:=h;simp only[Value.slice.injEq]at hv;obtain⟨rfl,rfl,rfl⟩:=hv;refine⟨_,cap-k,by rw[List.length_drop],by rw[List.length_drop];omega,fun j hj=>?_⟩;rw[List.length_drop]at hj;rw[List.getElem_drop];obtain⟨b',off',he,hl,ha⟩:=hr (k+j) (by omega);simp only[Option.some.injEq,Addr.mk.injEq,and_true]at he;obtain⟨rfl,rfl⟩:=he;refine⟨b,off+k*5,rfl,hl,?_⟩;rw[show off+k*5+j*5=off+(k+j)*5 by omega];exact ha
def J3 (l:List Rec)(w:World)(e:Ending)(w':World):Prop:=∃v L,e= .returned v∧Below w.heap.size w w'∧zS l L∧w'.ownsRow w.heap.size 80 5 v L.length (qp L)
def Halves (l:List Rec)(k:Nat)(w:World)(av bv:Value)(W:World):Prop:=
 ∃ga ca A gb cb B,av= .slice (some ⟨ga,0,none⟩) A.length ca∧bv= .slice (some ⟨gb,0,none⟩) B.length cb∧qm W av A∧qm W bv B∧zS (l.take k) A∧zS (l.drop k) B∧Below w.heap.size w W
theorem halves_row {l A:List Rec}{w w':World}{v:Value}(hs:zS l A)(hl:0<l.length)(hv:w'.ownsRow w.heap.size 80 5 v A.length (qp A)):∃g c,v= .slice (some ⟨g,0,none⟩) A.length c:=by
 have hn:=hs.1.length_eq;obtain⟨g,c,hv',_⟩:=hv.form (by omega);exact⟨g,c,hv'⟩
theorem rsorted_step (l:List Rec)(hl:l.length≤1000000)(hn:zn.jN l)(b off cap:Nat)(h2:2≤l.length)(w:World)(hrv:qm w (.slice (some ⟨b,off,none⟩) l.length cap) l)
 (ih:∀(l':List Rec),l'.length<l.length→zn.jN l'→∀(v:Value) (w:World),yz v→qm w v l'→Calls Tryz.prog 83 #[v] w fun e w'=>J3 l' w e w'):
 Calls Tryz.prog 83 #[.slice (some ⟨b,off,none⟩) l.length cap] w fun e w'=>J3 l w e w':=by
 obtain⟨n,hnl⟩:∃n,n=l.length:=⟨_,rfl⟩;have hcap:l.length≤cap:=by
  obtain⟨a,c,hv,hc,_⟩:=hrv;simp only[Value.slice.injEq]at hv;omega
 have hA:∀X,Below w.heap.size w X→Calls Tryz.prog 83 #[.slice (some ⟨b,off,none⟩) (n / 2) cap] X fun e w'=>J3 (l.take (n / 2)) X e w':=fun X hX=>
  ih _ (by rw[List.length_take];omega) (fun r hr=>hn r (List.mem_of_mem_take hr)) _ X (.inr ⟨_,_,_,_,rfl⟩) (Zz (hrv.below hX) (by omega))
 have hBq:∀X,Below w.heap.size w X→Calls Tryz.prog 83 #[.slice (some ⟨b,off+n / 2*5,none⟩) (n-n / 2) (cap-n / 2)] X fun e w'=>J3 (l.drop (n / 2)) X e w':=fun X hX=>
  ih _ (by rw[List.length_drop];omega) (fun r hr=>hn r (List.mem_of_mem_drop hr)) _ X (.inr ⟨_,_,_,_,rfl⟩) (by have:=VR (k:=n / 2) (hrv.below hX) (by omega);rw[hnl];rw[hnl]at this;exact this)
 have hlen2:((n:Int) / 2)=((n / 2:Nat):Int):=by omega
 have hq1:n / 2≤cap:=by omega
 have hq2:¬cap=n / 2:=by omega
 have hq3:n / 2≤n:=by omega
 have hq4:n≤cap:=by omega
 have h2n:2≤n:=by omega
 have hln:n≤1000000:=by omega
 have hs0:(0:Int)≤(n:Int) / 2:=by omega
 have hs1:(n:Int) / 2≤(cap:Int):=by omega
 have hs2:(n:Int) / 2≤(n:Int):=by omega
 have hs3:((n:Int) / 2).toNat=n / 2:=by omega
 have hs4:(n:Int)≤(cap:Int):=by omega
 have hs5:IntKind.i64.wrap ((n:Int) / 2)=(n:Int) / 2:=IntWalk.i64_in _ (by omega);have hsA:(l.take (n / 2)).length=n / 2:=by rw[List.length_take];omega
 have hsB:(l.drop (n / 2)).length=n-n / 2:=by rw[List.length_drop];omega
 rw[← hnl];obtain⟨ZN,Za,Zh,uC,uO⟩:=info_parts jM;have Ka:=qe Za;have J9:=qe Zh;have QF:=qe uC;have QE:=qe uO;clear Za Zh uC uO;have HA:=qe hA;have HBQ:=qe hBq;have HNL:=qe hnl;have HN:=qe hn;have HRV:=qe hrv;have IH:=qe ih;have HLEN2:=qe hlen2;have HSA:=qe hsA;have HSB:=qe hsB;clear hA hBq hnl hn hrv ih hlen2 hsA hsB;clear h2 hl hcap
 go_enter Tryz.func83,Tryz.ntmps83
 go_wp2_with fail;go_upto_region 3 with fail
 go_cut [3,4] (fun av bv W=>Halves l (n / 2) w av bv W)
 case first=>
  go_region_held3 (fun X=>Below w.heap.size w X)
   (first | assumption | exact(Below.refl _ _).drew)
   (first
    | (go_at_call 83;(with_reducible refine(HA.out _ (by assumption)).mono ?_);rintro e wA ⟨vA,LA,rfl,hbA,hsA,hoA⟩;have Zi:=Below.trans (B:=w.heap.size) (a:=w) (by assumption) (hbA.mono (Below.size (by assumption))))
    | (go_at_call 83;(with_reducible refine(HBQ.out _ (by assumption)).mono ?_);rintro e wB ⟨vB,LB,rfl,hbB,hsB,hoB⟩;have hbB2:=Below.trans (B:=w.heap.size) (a:=w) (by assumption) (hbB.mono (Below.size (by assumption)))))
  all_goals
   obtain⟨ga,ca,rfl⟩:=halves_row hsA (by rw[HSA.out];omega) hoA;obtain⟨gb,cb,rfl⟩:=halves_row hsB (by rw[HSB.out];omega) hoB;go_wp2_with fail;go_meet
   first
    | exact⟨ga,ca,LA,gb,cb,LB,rfl,rfl,(qD hoA).below hbB,qD hoB,hsA,hsB,hbB2⟩
    | exact⟨ga,ca,LA,gb,cb,LB,rfl,rfl,qD hoA,(qD hoB).below hbA,hsA,hsB,Zi⟩
 case rest=>
  obtain⟨ga,ca,A,gb,cb,B,rfl,rfl,hra,hrb,hsa,hsb,hbc⟩:=hcut;have hM:=zn.uR.start hsa hsb HN.out;obtain⟨_,_,va,hca,cellA⟩:=hra;obtain⟨_,_,vb,hcb,cellB⟩:=hrb;simp only[Value.slice.injEq]at va vb;obtain⟨rfl,_,rfl⟩:=va;obtain⟨rfl,_,rfl⟩:=vb;have hAl:A.length≤1000000:=by rw[hsa.1.length_eq,HSA.out];omega
  have hBl:B.length≤1000000:=by rw[hsb.1.length_eq,HSB.out];omega
  have hcs:=hbc.size;have HM:=qe hM;have CELLA:=qe cellA;have CELLB:=qe cellB;have HBC:=qe hbc;have HSA:=qe hsa;have HSB:=qe hsb;clear hM cellA cellB hbc hsa hsb;clear hs0 hs1 hs2 hs3 hs4 hs5 hq1 hq2 hq3 hq4;go_wp2_with fail
  go_loopw [3,4,5] (fun av bv ov wr=>∃(i j oa ob na nb ka kb:Nat) (O:List Rec),i+na=A.length∧j+nb=B.length∧(0<na→oa=i*5)∧(0<nb→ob=j*5)∧na≤ka∧nb≤kb∧
   av= .slice (some ⟨ga,oa,none⟩) na ka∧bv= .slice (some ⟨gb,ob,none⟩) nb kb∧zn.uR l A B O i j∧wr.ownsRow wc.heap.size 80 5 ov O.length (qp O)∧Below wc.heap.size wc wr) (fun av bv _ _=>Xk av+Xk bv)
  case atStart=>exact⟨0,0,0,0,A.length,B.length,_,_,[],by omega,by omega,(fun _=>rfl),(fun _=>rfl),hca,hcb,rfl,rfl,HM.out,World.ownsRow_nil _ _ _ _,Below.refl _ _⟩
  case round=>
   obtain⟨i,j,oa,ob,na,nb,ka,kb,O,hi,hj,ho1,ho2,hka,hkb,rfl,rfl,hm,hown,hB⟩:=hrel;obtain⟨ao,co,rfl,_⟩:=qi hown;have hOl:=hm.len;have HNL':=HNL.out;have hO1:O.length≤1000000:=by omega
   have hsr:=hB.size;clear HNL';have HI:=qe hi;have HJ:=qe hj;have HO1:=qe ho1;have HO2:=qe ho2;have HMI:=qe hm;have HOWN:=qe hown;have HB:=qe hB;clear hi hj ho1 ho2 hm hown hB hOl;by_cases hna:na=0
   ·subst hna;by_cases hnb:nb=0
    ·subst hnb;have HD:=qe (HMI.out.done (by have:=HI.out;omega) (by have:=HJ.out;omega));have HBE:=qe (HBC.out.trans (HB.out.mono hcs));go_wp2_with fail;go_ret;exact⟨_,O,rfl,HBE.out,HD.out,qG HOWN.out hcs⟩
    ·have hb0:0<nb:=by omega
     have hb1:(0:Int)<(nb:Int):=by omega
     have hb2:((nb:Int) == 0)=false:=by rw[beq_eq_false_iff_ne];omega
     have hjl:j<B.length:=by have:=HJ.out;omega
     have HM2:=qe (HMI.out.right hjl (fun h=>by have:=HI.out;omega));clear hnb;obtain rfl:ob=j*5:=HO2.out hb0;go_wp2_with fail;refine ql (by kernel_rfl) (by kernel_rfl) ?_
     repeat (with_reducible refine wpQuiet_step (fun K hK=>?_);go_simp;(try simp only[undef]);first | (with_reducible refine hK _ ?_;clear hK K))
     refine wpQuiet_nil ?_
     (try simp only[show Value.tuple #[]=undef from rfl])
     intro W hW;have hBW:Below wr.heap.size wr W:=by obtain⟨g,rfl⟩:=hW;exact qB _ g
     clear hW;have HBW:=qe (HB.out.trans (hBW.mono hsr));have JD:=qe (ownsRow_below HOWN.out hBW);clear hBW;have hX:j<B.length:=by omega
     obtain⟨_,_,he,hgl,rx⟩:=CELLB.out j hX;simp only[Option.some.injEq,Addr.mk.injEq,and_true]at he;obtain⟨rfl,rfl⟩:=he;rw[Nat.zero_add]at rx;obtain⟨c0,c1,c2,c3,c4⟩:=rx.keep (HBW.out.block _ hgl);have Qt:=qe (HBW.out.alloc HBW.out.size (.cells (recC B[j]).toArray 80));have kK:=qe (qj JD.out fun b hb=>Below.heap_alloc W (.cells (recC B[j]).toArray 80) b (JD.out.lt b hb).2);have xC:=qe (show O.length+1≤maxLen from by unfold maxLen;omega);have xB:=qe (show(O.length+1)*56≤140737488355328 from by omega);have kJ:=qe (show wc.heap.size≤(W.alloc (.cells (recC B[j]).toArray 80)).heap.size from by have:=HBW.out.size;simp;omega);have jD:=qe (j3 W (recC B[j]) 80);go_wp2_with (at_builtin;refine qJ _ rfl _ _ 31 rfl wc.heap.size 80 ZN (.agg #[.string ⟨#[]⟩,.int .i64 0,.int .i64 0,.int .i64 0,.string ⟨#[]⟩]) 5 56 Tryz.underlying31 Ka.out J9.out QF.out QE.out rfl (by decide) _ _ _ rfl kK.out ⟨W.heap.size,0,none⟩ 1 1 (recC B[j]) rfl rfl jD.out (by simp[Value.oneCell']) xC.out xB.out kJ.out ?_);intro v' w10 zi yI yX;have yV:=qe (Qt.out.grown yI kJ.out (fun j hj=>(kK.out.lt j hj).1));have zJ:=qe zi;have YK:=qe yI;have xN:=qe yX;clear zi yI yX Qt kK xC xB kJ jD;clear c0 c1 c2 c3 c4;by_cases hk1:kb=1
     ·obtain rfl:nb=1:=by omega
      obtain rfl:kb=1:=hk1;go_wp2_with fail
      go_roundw
      case rel=>
       refine⟨i,(j+1),_,_,_,_,_,_,O ++ [B[j]],?_,?_,?_,?_,?_,?_,rfl,rfl,HM2.out,?_,yV.out⟩
       rotate_left 6
       ·have h:=zJ.out;rw[List.length_append,jH];exact h
       all_goals
        have hi:=HI.out;have hj:=HJ.out;have hp1:=HO1.out;have hp2:=HO2.out;clear yV zJ YK xN;omega
      case measure=>simp[Xk]
     ·go_wp2_with fail
      go_roundw
      case rel=>
       refine⟨i,(j+1),_,_,_,_,_,_,O ++ [B[j]],?_,?_,?_,?_,?_,?_,rfl,rfl,HM2.out,?_,yV.out⟩
       rotate_left 6
       ·have h:=zJ.out;rw[List.length_append,jH];exact h
       all_goals
        have hi:=HI.out;have hj:=HJ.out;have hp1:=HO1.out;have hp2:=HO2.out;clear yV zJ YK xN;omega
      case measure=>simp[Xk];omega
   ·have ha0:0<na:=by omega
    have ha1:(0:Int)<(na:Int):=by omega
    have ha2:((na:Int) == 0)=false:=by rw[beq_eq_false_iff_ne];omega
    have hil:i<A.length:=by have:=HI.out;omega
    clear hna;by_cases hnb:nb=0
    ·subst hnb;have HM2:=qe (HMI.out.left hil (fun h=>by have:=HJ.out;omega));obtain rfl:oa=i*5:=HO1.out ha0;go_wp2_with fail;refine ql (by kernel_rfl) (by kernel_rfl) ?_
     repeat (with_reducible refine wpQuiet_step (fun K hK=>?_);go_simp;(try simp only[undef]);first | (with_reducible refine hK _ ?_;clear hK K))
     refine wpQuiet_nil ?_
     (try simp only[show Value.tuple #[]=undef from rfl])
     intro W hW;have hBW:Below wr.heap.size wr W:=by obtain⟨g,rfl⟩:=hW;exact qB _ g
     clear hW;have HBW:=qe (HB.out.trans (hBW.mono hsr));have JD:=qe (ownsRow_below HOWN.out hBW);clear hBW;have hX:i<A.length:=by omega
     obtain⟨_,_,he,hgl,rx⟩:=CELLA.out i hX;simp only[Option.some.injEq,Addr.mk.injEq,and_true]at he;obtain⟨rfl,rfl⟩:=he;rw[Nat.zero_add]at rx;obtain⟨c0,c1,c2,c3,c4⟩:=rx.keep (HBW.out.block _ hgl);have Qt:=qe (HBW.out.alloc HBW.out.size (.cells (recC A[i]).toArray 80));have kK:=qe (qj JD.out fun b hb=>Below.heap_alloc W (.cells (recC A[i]).toArray 80) b (JD.out.lt b hb).2);have xC:=qe (show O.length+1≤maxLen from by unfold maxLen;omega);have xB:=qe (show(O.length+1)*56≤140737488355328 from by omega);have kJ:=qe (show wc.heap.size≤(W.alloc (.cells (recC A[i]).toArray 80)).heap.size from by have:=HBW.out.size;simp;omega);have jD:=qe (j3 W (recC A[i]) 80);go_wp2_with (at_builtin;refine qJ _ rfl _ _ 31 rfl wc.heap.size 80 ZN (.agg #[.string ⟨#[]⟩,.int .i64 0,.int .i64 0,.int .i64 0,.string ⟨#[]⟩]) 5 56 Tryz.underlying31 Ka.out J9.out QF.out QE.out rfl (by decide) _ _ _ rfl kK.out ⟨W.heap.size,0,none⟩ 1 1 (recC A[i]) rfl rfl jD.out (by simp[Value.oneCell']) xC.out xB.out kJ.out ?_);intro v' w10 zi yI yX;have yV:=qe (Qt.out.grown yI kJ.out (fun j hj=>(kK.out.lt j hj).1));have zJ:=qe zi;have YK:=qe yI;have xN:=qe yX;clear zi yI yX Qt kK xC xB kJ jD;clear c0 c1 c2 c3 c4;by_cases hk1:ka=1
     ·obtain rfl:na=1:=by omega
      obtain rfl:ka=1:=hk1;go_wp2_with fail
      go_roundw
      case rel=>
       refine⟨(i+1),j,_,_,_,_,_,_,O ++ [A[i]],?_,?_,?_,?_,?_,?_,rfl,rfl,HM2.out,?_,yV.out⟩
       rotate_left 6
       ·have h:=zJ.out;rw[List.length_append,jH];exact h
       all_goals
        have hi:=HI.out;have hj:=HJ.out;have hp1:=HO1.out;have hp2:=HO2.out;clear yV zJ YK xN;omega
      case measure=>simp[Xk]
     ·go_wp2_with fail
      go_roundw
      case rel=>
       refine⟨(i+1),j,_,_,_,_,_,_,O ++ [A[i]],?_,?_,?_,?_,?_,?_,rfl,rfl,HM2.out,?_,yV.out⟩
       rotate_left 6
       ·have h:=zJ.out;rw[List.length_append,jH];exact h
       all_goals
        have hi:=HI.out;have hj:=HJ.out;have hp1:=HO1.out;have hp2:=HO2.out;clear yV zJ YK xN;omega
      case measure=>simp[Xk];omega
    ·have hb0:0<nb:=by omega
     have hb1:(0:Int)<(nb:Int):=by omega
     have hb2:((nb:Int) == 0)=false:=by rw[beq_eq_false_iff_ne];omega
     have hjl:j<B.length:=by have:=HJ.out;omega
     clear hnb;obtain rfl:oa=i*5:=HO1.out ha0;obtain rfl:ob=j*5:=HO2.out hb0;have nmA:qo A[i].owner=true:=(HMI.out.named).2.1 _ (zn.uF hil);have nmB:qo B[j].owner=true:=(HMI.out.named).2.2 _ (zn.uF hjl);have szA:=qU nmA;have szB:=qU nmB;obtain⟨_,_,he,hgal,ra⟩:=CELLA.out i hil;simp only[Option.some.injEq,Addr.mk.injEq,and_true]at he;obtain⟨rfl,rfl⟩:=he;rw[Nat.zero_add]at ra;obtain⟨_,_,he,hgbl,rb⟩:=CELLB.out j hjl;simp only[Option.some.injEq,Addr.mk.injEq,and_true]at he;obtain⟨rfl,rfl⟩:=he;rw[Nat.zero_add]at rb;have ra:=ra.keep (HB.out.block _ hgal);have rb:=rb.keep (HB.out.block _ hgbl);obtain⟨x0,x1,x2,x3,x4⟩:=ra;obtain⟨y0,y1,y2,y3,y4⟩:=rb;have e0:=qf x0;have e1:=qf x1;have e2:=qf x2;have e3:=qf x3;have e4:=qf x4;have f0:=qf y0;have f1:=qf y1;have f2:=qf y2;have f3:=qf y3;have f4:=qf y4
     cases hd:decide (zn.zZ B[j] A[i]<0)
     ·have CP:Hid (∀g,Calls Tryz.prog 134 #[ym B[j],ym A[i]] (gw wr g) fun e w''=>e= .returned (.bool false)∧∃g',w''=gw wr g'):=qe fun g=>qV (by rw[← hd];exact VS _ _ (by omega) (by omega) _);have HM2:=qe (HMI.out.left hil (fun h=>(zn.ord_le nmA nmB).2 (by rw[decide_eq_false_iff_not]at hd;omega)));clear hd x0 x1 x2 x3 x4 y0 y1 y2 y3 y4 nmA nmB;go_wp2_with fail;refine ql (by kernel_rfl) (by kernel_rfl) ?_
      repeat (with_reducible refine wpQuiet_step (fun K hK=>?_);go_simp;(try simp only[undef]);first | (with_reducible refine hK _ ?_;clear hK K) | (apply Exists.intro;refine⟨fun _=>?_,hK _ ?_⟩;(first | (go_at_call 134;with_reducible exact CP.out _));clear hK K) | (with_reducible refine⟨fun _ h=>(by cases h),?_⟩;with_reducible refine hK _ ?_;clear hK K))
      refine wpQuiet_nil ?_
      (try simp only[show Value.tuple #[]=undef from rfl])
      intro W hW;have hBW:Below wr.heap.size wr W:=by obtain⟨g,rfl⟩:=hW;exact qB _ g
      clear hW;clear e0 e1 e2 e3 e4 f0 f1 f2 f3 f4;have HBW:=qe (HB.out.trans (hBW.mono hsr));have JD:=qe (ownsRow_below HOWN.out hBW);clear hBW;have hX:i<A.length:=by omega
      obtain⟨_,_,he,hgl,rx⟩:=CELLA.out i hX;simp only[Option.some.injEq,Addr.mk.injEq,and_true]at he;obtain⟨rfl,rfl⟩:=he;rw[Nat.zero_add]at rx;obtain⟨c0,c1,c2,c3,c4⟩:=rx.keep (HBW.out.block _ hgl);have Qt:=qe (HBW.out.alloc HBW.out.size (.cells (recC A[i]).toArray 80));have kK:=qe (qj JD.out fun b hb=>Below.heap_alloc W (.cells (recC A[i]).toArray 80) b (JD.out.lt b hb).2);have xC:=qe (show O.length+1≤maxLen from by unfold maxLen;omega);have xB:=qe (show(O.length+1)*56≤140737488355328 from by omega);have kJ:=qe (show wc.heap.size≤(W.alloc (.cells (recC A[i]).toArray 80)).heap.size from by have:=HBW.out.size;simp;omega);have jD:=qe (j3 W (recC A[i]) 80);go_wp2_with (at_builtin;refine qJ _ rfl _ _ 31 rfl wc.heap.size 80 ZN (.agg #[.string ⟨#[]⟩,.int .i64 0,.int .i64 0,.int .i64 0,.string ⟨#[]⟩]) 5 56 Tryz.underlying31 Ka.out J9.out QF.out QE.out rfl (by decide) _ _ _ rfl kK.out ⟨W.heap.size,0,none⟩ 1 1 (recC A[i]) rfl rfl jD.out (by simp[Value.oneCell']) xC.out xB.out kJ.out ?_);intro v' w10 zi yI yX;have yV:=qe (Qt.out.grown yI kJ.out (fun j hj=>(kK.out.lt j hj).1));have zJ:=qe zi;have YK:=qe yI;have xN:=qe yX;clear zi yI yX Qt kK xC xB kJ jD;clear c0 c1 c2 c3 c4;by_cases hk1:ka=1
      ·obtain rfl:na=1:=by omega
       obtain rfl:ka=1:=hk1;go_wp2_with fail
       go_roundw
       case rel=>
        refine⟨(i+1),j,_,_,_,_,_,_,O ++ [A[i]],?_,?_,?_,?_,?_,?_,rfl,rfl,HM2.out,?_,yV.out⟩
        rotate_left 6
        ·have h:=zJ.out;rw[List.length_append,jH];exact h
        all_goals
         have hi:=HI.out;have hj:=HJ.out;have hp1:=HO1.out;have hp2:=HO2.out;clear yV zJ YK xN;omega
       case measure=>simp[Xk]
      ·go_wp2_with fail
       go_roundw
       case rel=>
        refine⟨(i+1),j,_,_,_,_,_,_,O ++ [A[i]],?_,?_,?_,?_,?_,?_,rfl,rfl,HM2.out,?_,yV.out⟩
        rotate_left 6
        ·have h:=zJ.out;rw[List.length_append,jH];exact h
        all_goals
         have hi:=HI.out;have hj:=HJ.out;have hp1:=HO1.out;have hp2:=HO2.out;clear yV zJ YK xN;omega
       case measure=>simp[Xk];omega
     ·have CP:Hid (∀g,Calls Tryz.prog 134 #[ym B[j],ym A[i]] (gw wr g) fun e w''=>e= .returned (.bool true)∧∃g',w''=gw wr g'):=qe fun g=>qV (by rw[← hd];exact VS _ _ (by omega) (by omega) _);have HM2:=qe (HMI.out.right hjl (fun h=>by rw[decide_eq_true_iff]at hd;omega));clear hd x0 x1 x2 x3 x4 y0 y1 y2 y3 y4 nmA nmB;go_wp2_with fail;refine ql (by kernel_rfl) (by kernel_rfl) ?_
      repeat (with_reducible refine wpQuiet_step (fun K hK=>?_);go_simp;(try simp only[undef]);first | (with_reducible refine hK _ ?_;clear hK K) | (apply Exists.intro;refine⟨fun _=>?_,hK _ ?_⟩;(first | (go_at_call 134;with_reducible exact CP.out _));clear hK K) | (with_reducible refine⟨fun _ h=>(by cases h),?_⟩;with_reducible refine hK _ ?_;clear hK K))
      refine wpQuiet_nil ?_
      (try simp only[show Value.tuple #[]=undef from rfl])
      intro W hW;have hBW:Below wr.heap.size wr W:=by obtain⟨g,rfl⟩:=hW;exact qB _ g
      clear hW;clear e0 e1 e2 e3 e4 f0 f1 f2 f3 f4;have HBW:=qe (HB.out.trans (hBW.mono hsr));have JD:=qe (ownsRow_below HOWN.out hBW);clear hBW;have hX:j<B.length:=by omega
      obtain⟨_,_,he,hgl,rx⟩:=CELLB.out j hX;simp only[Option.some.injEq,Addr.mk.injEq,and_true]at he;obtain⟨rfl,rfl⟩:=he;rw[Nat.zero_add]at rx;obtain⟨c0,c1,c2,c3,c4⟩:=rx.keep (HBW.out.block _ hgl);have Qt:=qe (HBW.out.alloc HBW.out.size (.cells (recC B[j]).toArray 80));have kK:=qe (qj JD.out fun b hb=>Below.heap_alloc W (.cells (recC B[j]).toArray 80) b (JD.out.lt b hb).2);have xC:=qe (show O.length+1≤maxLen from by unfold maxLen;omega);have xB:=qe (show(O.length+1)*56≤140737488355328 from by omega);have kJ:=qe (show wc.heap.size≤(W.alloc (.cells (recC B[j]).toArray 80)).heap.size from by have:=HBW.out.size;simp;omega);have jD:=qe (j3 W (recC B[j]) 80);go_wp2_with (at_builtin;refine qJ _ rfl _ _ 31 rfl wc.heap.size 80 ZN (.agg #[.string ⟨#[]⟩,.int .i64 0,.int .i64 0,.int .i64 0,.string ⟨#[]⟩]) 5 56 Tryz.underlying31 Ka.out J9.out QF.out QE.out rfl (by decide) _ _ _ rfl kK.out ⟨W.heap.size,0,none⟩ 1 1 (recC B[j]) rfl rfl jD.out (by simp[Value.oneCell']) xC.out xB.out kJ.out ?_);intro v' w10 zi yI yX;have yV:=qe (Qt.out.grown yI kJ.out (fun j hj=>(kK.out.lt j hj).1));have zJ:=qe zi;have YK:=qe yI;have xN:=qe yX;clear zi yI yX Qt kK xC xB kJ jD;clear c0 c1 c2 c3 c4;by_cases hk1:kb=1
      ·obtain rfl:nb=1:=by omega
       obtain rfl:kb=1:=hk1;go_wp2_with fail
       go_roundw
       case rel=>
        refine⟨i,(j+1),_,_,_,_,_,_,O ++ [B[j]],?_,?_,?_,?_,?_,?_,rfl,rfl,HM2.out,?_,yV.out⟩
        rotate_left 6
        ·have h:=zJ.out;rw[List.length_append,jH];exact h
        all_goals
         have hi:=HI.out;have hj:=HJ.out;have hp1:=HO1.out;have hp2:=HO2.out;clear yV zJ YK xN;omega
       case measure=>simp[Xk]
      ·go_wp2_with fail
       go_roundw
       case rel=>
        refine⟨i,(j+1),_,_,_,_,_,_,O ++ [B[j]],?_,?_,?_,?_,?_,?_,rfl,rfl,HM2.out,?_,yV.out⟩
        rotate_left 6
        ·have h:=zJ.out;rw[List.length_append,jH];exact h
        all_goals
         have hi:=HI.out;have hj:=HJ.out;have hp1:=HO1.out;have hp2:=HO2.out;clear yV zJ YK xN;omega
       case measure=>simp[Xk];omega
theorem Kh (l:List Rec)(hl:l.length<2)(v:Value)(hf:yz v)(w:World)(hrv:qm w v l):
 Calls Tryz.prog 83 #[v] w fun e w'=>J3 l w e w':=by
 rcases hf with rfl | ⟨b,off,n,cap,rfl⟩
 ·have h0:l= []:=by
   obtain⟨a,c,hv,_⟩:=hrv;simp only[Value.slice.injEq]at hv;exact List.eq_nil_of_length_eq_zero hv.2.1.symm
  subst h0
  go_enter Tryz.func83,Tryz.ntmps83
  go_wp2_with fail;go_ret;exact⟨_,[],rfl,Below.refl _ _,zn.Ub (by decide),World.ownsRow_nil _ _ _ _⟩
 ·obtain⟨hn,hcell⟩:=YE hrv;subst hn;have hone:∀u∈qp l,u.oneCell'=true:=fun u hu=>by
   unfold qp at hu;obtain⟨r,_,hr⟩:=List.mem_flatMap.1 hu;simp only[List.mem_cons,List.not_mem_nil,or_false]at hr;rcases hr with rfl | rfl | rfl | rfl | rfl <;> rfl
  have hln:=zK l;have hl':(l.length:Int)<2:=by omega
  have hnl:World.ownsRow w w.heap.size 80 5 (.slice none 0 0) 0 []:=World.ownsRow_nil _ _ _ _;have hnews:∀j u,(qp l)[j]? =some u→w.cell? ((⟨b,off,none⟩:Addr).add j)=some u:=fun j u hu=>by rw[Addr.add_lit];exact hcell j u hu
  have p1:0+l.length≤maxLen:=by unfold maxLen;omega
  have p2:(0+l.length)*56≤140737488355328:=by omega
  have hlt:=qe hl;obtain⟨ZN,Za,Zh,uC,uO⟩:=info_parts jM;have Ka:=qe Za;have J9:=qe Zh;have QF:=qe uC;have QE:=qe uO;clear Za Zh uC uO;have HONE:=qe hone;have HLN:=qe hln;have HNL:=qe hnl;have kR:=qe hnews;have P1:=qe p1;have P2:=qe p2;have HCELL:=qe hcell;clear hone hln hnl hnews p1 p2 hcell;clear hl
  go_enter Tryz.func83,Tryz.ntmps83
  go_wp2_with (at_builtin;refine qJ _ rfl _ _ 31 rfl w.heap.size 80 ZN (.agg #[.string ⟨#[]⟩,.int .i64 0,.int .i64 0,.int .i64 0,.string ⟨#[]⟩]) 5 56 Tryz.underlying31 Ka.out J9.out QF.out QE.out rfl (by decide) _ _ _ rfl HNL.out ⟨b,off,none⟩ l.length cap (qp l) rfl HLN.out kR.out HONE.out P1.out P2.out (Nat.le_refl _) ?_);intro v' w10 zi yI yX;have yV:=qe ((Below.refl w.heap.size w).grown yI (Nat.le_refl _) (fun j hj=>by cases hj));have zJ:=qe zi;clear zi;clear yI yX;go_wp2_with fail;go_ret;refine⟨_,l,rfl,yV.out,zn.Ub hlt.out,?_⟩;have h:=zJ.out;exact h
theorem rsorted_any:∀(n:Nat) (l:List Rec),l.length≤n→n≤1000000→zn.jN l→∀(v:Value) (w:World),yz v→qm w v l→Calls Tryz.prog 83 #[v] w fun e w'=>J3 l w e w':=by
 intro n
 induction n with
 | zero=>intro l hl hn hnm v w hf hrv;exact Kh l (by omega) v hf w hrv
 | succ n ih=>
   intro l hl hn hnm v w hf hrv;by_cases h2:l.length<2
   ·exact Kh l h2 v hf w hrv
   ·rcases hf with rfl | ⟨b,off,m,cap,rfl⟩
    ·obtain⟨a,c,hv,_⟩:=hrv;simp only[Value.slice.injEq]at hv;omega
    ·obtain⟨hm,_⟩:=YE hrv;subst hm;exact rsorted_step l (by omega) hnm b off cap (by omega) w hrv (fun l' hl' hn' v' w' hf' hr'=>ih l' (by omega) (by omega) hn' v' w' hf' hr')
end Go.Proofs.YtpcmilhjpmlbpaaGreatDoor
