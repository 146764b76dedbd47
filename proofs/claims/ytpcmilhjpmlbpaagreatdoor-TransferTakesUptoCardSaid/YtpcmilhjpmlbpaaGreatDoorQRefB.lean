import Derived.Test.YtpcmilhjpmlbpaaGreatDoorQRefF
import Derived.Test.YtpcmilhjpmlbpaaGreatDoorQRefP
import Derived.Deep.LoopGhost
import Derived.Deep.RegionHeld3
set_option maxRecDepth 100000
set_option maxHeartbeats 2000000
namespace Go.Proofs.YtpcmilhjpmlbpaaGreatDoor
open Go.RowKit Go.Shelf Go.WideMaps nm od
namespace zn
end zn
structure jB (w:World)(top z:Nat)(qf:ByteArray)(L:List Rec):Prop where
 v:QL w top z qf L
 small:L.length<=2000
 named:zn.jN L
 sorted:L.Pairwise (λa b=>zn.zY a b<=0)
theorem jB.kept {w w':World}{top z:Nat}{qf:ByteArray}{L:List Rec}(h:jB w top z qf L)(hb:Below w.heap.size w w'):jB w' top z qf L:=
 ⟨h.v.below (hb.mono h.v.1),h.small,h.named,h.sorted⟩
theorem fnd_store {B g:Nat}{w wc:World}{T:TypeId}{a0 a1 a2 a3 a4:Value}(h:wc.heap[g]? =some (.cells #[a0,a1,a2,a3,a4] T (0,0)))(hB:Below B w wc)(hg:B<=g)(v0 v1 v2 v3 v4:Value):
 (((((wc.setCell ⟨g,0,none⟩ v0).setCell ⟨g,1,none⟩ v1).setCell ⟨g,2,none⟩ v2).setCell ⟨g,3,none⟩ v3).setCell ⟨g,4,none⟩ v4).heap[g]? =some (.cells #[v0,v1,v2,v3,v4] T (0,0))/\
 Below B w (((((wc.setCell ⟨g,0,none⟩ v0).setCell ⟨g,1,none⟩ v1).setCell ⟨g,2,none⟩ v2).setCell ⟨g,3,none⟩ v3).setCell ⟨g,4,none⟩ v4)/\
 ∀b,b≠g->(((((wc.setCell ⟨g,0,none⟩ v0).setCell ⟨g,1,none⟩ v1).setCell ⟨g,2,none⟩ v2).setCell ⟨g,3,none⟩ v3).setCell ⟨g,4,none⟩ v4).heap[b]? =wc.heap[b]?:=by
 refine⟨qC (qC (qC (qC (qC h 0 v0) 1 v1) 2 v2) 3 v3) 4 v4,((((hB.setCell hg _).setCell hg _).setCell hg _).setCell hg _).setCell hg _,λb hb=>?_⟩;rw[gP _ _ _ _ hb,gP _ _ _ _ hb,gP _ _ _ _ hb,gP _ _ _ _ hb,gP _ _ _ _ hb]
end Go.Proofs.YtpcmilhjpmlbpaaGreatDoor
namespace Go.Proofs.YtpcmilhjpmlbpaaGreatDoor
open Go.RowKit Go.Shelf nm od
namespace zn
theorem cmpInt_neg (a b:Int):Lib.compareInt a b<0↔a<b:=by
 unfold Lib.compareInt
 split
 ·omega
 ·split <;> omega
theorem cmpBytes_neg (x y:List UInt8):Lib.compareBytes x y<0↔Op.bytesLess x y=true:=by
 obtain⟨h1,h2,h3⟩:=VP x y
 cases hl:Op.bytesLess x y
 ·cases he:x == y
  ·rw[h3 hl he];simp
  ·rw[h2 he];simp
 ·rw[h1 hl];simp
theorem ord_le {a b:Rec}(ha:qo a.owner=true)(hb:qo b.owner=true):zY a b<=0↔0<=zY b a:=Yo.le ⟨a,ha⟩ ⟨b,hb⟩
theorem ord_trans {a b d:Rec}(ha:qo a.owner=true)(hb:qo b.owner=true)(hd:qo d.owner=true)(h1:zY a b<=0)(h2:zY b d<=0):zY a d<=0:=Yo.trans ⟨a,ha⟩ ⟨b,hb⟩ ⟨d,hd⟩ h1 h2
end zn
theorem Xb (x y:Rec)(hx:x.owner.size<=1099511627776)(hy:y.owner.size<=1099511627776)(w:World):
 Calls Tryz.prog 134 #[yf x,yf y] w λe w'=>e= .returned (.bool (decide (zn.zY x y<0)))/\Below w.heap.size w w':=by
 have hB2:=qe (((gJ _ w).alloc (gI _) (.cells (recC x).toArray 80)).alloc (by simp) (.cells (recC y).toArray 80));have cx:=λj v h=>qx (.cells (recC y).toArray 80) (q8 w x 80 j v h);have cy:=λj v h=>q8 (w.alloc (.cells (recC x).toArray 80)) y 80 j v h;simp only[World.size_alloc]at cy;have hif:=od.VD x y;obtain⟨w2,hw2⟩:=yM ((w.alloc (.cells (recC x).toArray 80)).alloc (.cells (recC y).toArray 80));rw[<- hw2]at hB2 cx cy;have hz2:w2.heap.size=w.heap.size+2:=by rw[hw2];simp
 have f0:=cx 0 _ rfl;have f1:=cx 1 _ rfl;have f4:=cx 4 _ rfl;have g0:=cy 0 _ rfl;have g1:=cy 1 _ rfl;have g4:=cy 4 _ rfl;have lt0:w.heap.size<w2.heap.size:=by omega
 have lt1:w.heap.size+1<w2.heap.size:=by omega
 clear cx cy hz2;have HW2:=qe hw2;have HIF:=qe hif;clear hw2 hif
 go_enter Tryz.func134,Tryz.ntmps134
 go_wp2_with fail;rw[<- HW2.out];refine(rcompare_any _ _ hx hy _).mono ?_;rintro e w3 ⟨rfl,hB3⟩;have d1:=(hB3.cell (p:=⟨w.heap.size,1,none⟩) lt0).trans f1;have d4:=(hB3.cell (p:=⟨w.heap.size,4,none⟩) lt0).trans f4;have k1:=(hB3.cell (p:=⟨w.heap.size+1,1,none⟩) lt1).trans g1;have k4:=(hB3.cell (p:=⟨w.heap.size+1,4,none⟩) lt1).trans g4;have HB3:=qe (gm hB2.out hB3);clear hB3 f0 f1 f4 g0 g1 g4 lt0 lt1;by_cases hc:zo x.owner y.owner=0
 ·have bc:(zo x.owner y.owner != 0)=false:=by rw[hc];rfl
  have VM:=HIF.out;rw[if_pos hc]at VM;by_cases ht:x.typ=y.typ
  ·have bt:(x.typ != y.typ)=false:=by rw[ht];simp
   rw[if_pos ((od.int_zero _ _).2 ht)]at VM;have hres:decide (zn.zY x y<0)=Op.bytesLess (dt.ym x.typ x.data).toList (dt.ym y.typ y.data).toList:=by
    rw[VM,Bool.eq_iff_iff,decide_eq_true_iff,zn.cmpBytes_neg,Lib.toList_data,Lib.toList_data]
   have e1:=qh d1;have e2:=qh d4;have e3:=qh k1;have e4:=qh k4;have CP:Hid (∀g,Calls Tryz.prog 175 #[.int .i64 x.typ,.string x.data] (gw w3 g) λe w''=>e= .returned (.string (dt.ym x.typ x.data))/\∃g',w''=gw w3 g'):=qe λg=>qY (YQ _ _ _);have CQ:Hid (∀g,Calls Tryz.prog 175 #[.int .i64 y.typ,.string y.data] (gw w3 g) λe w''=>e= .returned (.string (dt.ym y.typ y.data))/\∃g',w''=gw w3 g'):=qe λg=>qY (YQ _ _ _);have HC:=qe hc;have HT:=qe ht;have HIF2:=qe VM;have zK:=qe hres;clear hc ht VM hres;go_wp2_with fail;refine qp (by kernel_rfl) (by kernel_rfl) ?_
   repeat (refine Hu (λK hK=>?_);go_simp;(try simp only[undef]);first | (with_reducible refine hK _ ?_;clear hK K) | (apply gW;refine⟨λ_=>?_,hK _ ?_⟩;(first | (go_at_call 175;first | with_reducible exact CP.out _ | with_reducible exact CQ.out _));clear hK K) | (refine⟨λ_ h=>(by cases h),?_⟩;with_reducible refine hK _ ?_;clear hK K))
   refine Hw ?_;intro W hW;have hBW:Below w3.heap.size w3 W:=by obtain⟨g,rfl⟩:=hW;exact qD _ g
   clear hW;go_wp2_with fail;go_ret;exact⟨qI zK.out.symm,HB3.out.trans (hBW.mono HB3.out.size)⟩
  ·have bt:(x.typ != y.typ)=true:=by rw[bne_iff_ne];exact ht
   have hz:Lib.compareInt x.typ y.typ≠0:=λh=>ht ((od.int_zero _ _).1 h);rw[if_neg hz]at VM;have hres:decide (zn.zY x y<0)=decide (x.typ<y.typ):=by rw[VM];exact decide_eq_decide.2 (zn.cmpInt_neg _ _)
   have HC:=qe hc;have HT:=qe ht;have HIF2:=qe VM;have zK:=qe hres;have HZ:=qe hz;clear hc ht VM hres hz;go_wp2_with fail;go_ret;exact⟨qI zK.out.symm,HB3.out⟩
 ·have bc:(zo x.owner y.owner != 0)=true:=by rw[bne_iff_ne];exact hc
  have VM:=HIF.out;rw[if_neg hc]at VM;have HC:=qe hc;have HIF2:=qe VM;clear hc VM;go_wp2_with fail;go_ret;exact⟨qI (by rw[HIF2.out]),HB3.out⟩
namespace zn
abbrev Sd (l:List Rec):Prop:=l.Pairwise (λa b=>zY a b<=0)
structure uT (l A B O:List Rec)(i j:Nat):Prop where
 perm:(O ++ (A.drop i ++ B.drop j)).Perm l
 so:Sd O
 low:∀o∈O,∀x∈A.drop i ++ B.drop j,zY o x<=0
 sa:Sd A
 sb:Sd B
 nm:jN l
theorem uT.start {l A B:List Rec}{k:Nat}(ha:zL (l.take k) A)(hb:zL (l.drop k) B)(hn:jN l):uT l A B [] 0 0 where
 perm:=by
  rw[List.nil_append,List.drop_zero,List.drop_zero];exact((ha.1.append hb.1).trans (by rw[List.take_append_drop]))
 so:=List.Pairwise.nil
 low:=λo ho=>by simp at ho
 sa:=ha.2
 sb:=hb.2
 nm:=hn
theorem XO {l:List Rec}{i:Nat}(hs:Sd l)(hi:i<l.length)(hself:zY l[i] l[i]<=0):∀x∈l.drop i,zY l[i] x<=0:=λx hx=>by
 rw[Hf hi]at hx;rcases List.mem_cons.1 hx with rfl | hx
 ·exact hself
 ·have h:=List.Pairwise.drop (i:=i) hs;rw[Hf hi,List.pairwise_cons]at h;exact h.1 x hx
theorem uT.named {l A B O:List Rec}{i j:Nat}(h:uT l A B O i j):(∀x∈O,qo x.owner=true)/\(∀x∈A.drop i,qo x.owner=true)/\(∀x∈B.drop j,qo x.owner=true):=
 ⟨λx hx=>h.nm x (h.perm.mem_iff.1 (by simp[hx])),λx hx=>h.nm x (h.perm.mem_iff.1 (by simp[hx])),λx hx=>h.nm x (h.perm.mem_iff.1 (by simp[hx]))⟩
theorem UG {a:Rec}(h:qo a.owner=true):zY a a<=0:=by
 have:=Yo.self ⟨a,h⟩;have h2:zY a a=0:=this;omega
theorem uG {l:List Rec}{i:Nat}(h:i<l.length):l[i]∈l.drop i:=by rw[Hf h];exact List.mem_cons_self ..
theorem uT.left {l A B O:List Rec}{i j:Nat}(h:uT l A B O i j)(hi:i<A.length)(hle:∀(hj:j<B.length),zY A[i] B[j]<=0):uT l A B (O ++ [A[i]]) (i+1) j:=by
 obtain⟨n1,n2,n3⟩:=h.named;have hs:=UG (n2 _ (uG hi));have e:=Hf hi;have hp:=h.perm;have hl:=h.low;rw[e]at hp hl;refine⟨?_,?_,?_,h.sa,h.sb,h.nm⟩
 ·rw[List.append_assoc];exact hp
 ·refine List.pairwise_append.2 ⟨h.so,List.pairwise_singleton ..,λa ha b hb=>?_⟩;rw[gY]at hb;subst hb;exact hl a ha _ (List.mem_append.2 (.inl (List.mem_cons_self ..)))
 ·intro o ho x hx;rcases List.mem_append.1 ho with ho | ho
  ·exact hl o ho x (by
    rcases List.mem_append.1 hx with hx | hx
    ·exact List.mem_append.2 (.inl (List.mem_cons_of_mem _ hx))
    ·exact List.mem_append.2 (.inr hx))
  ·rw[gY]at ho;subst ho;rcases List.mem_append.1 hx with hx | hx
   ·exact XO h.sa hi hs x (by rw[e];exact List.mem_cons_of_mem _ hx)
   ·have hj:j<B.length:=by
     rcases Nat.lt_or_ge j B.length with h' | h'
     ·exact h'
     ·rw[List.drop_of_length_le h']at hx;simp at hx
    have hb:=XO h.sb hj (UG (n3 _ (uG hj))) x hx;exact ord_trans (n2 _ (uG hi)) (n3 _ (uG hj)) (n3 x hx) (hle hj) hb
theorem uT.right {l A B O:List Rec}{i j:Nat}(h:uT l A B O i j)(hj:j<B.length)(hle:∀(hi:i<A.length),zY B[j] A[i]<=0):uT l A B (O ++ [B[j]]) i (j+1):=by
 obtain⟨n1,n2,n3⟩:=h.named;have hs:=UG (n3 _ (uG hj));have e:=Hf hj;have hp:=h.perm;have hl:=h.low;rw[e]at hp hl;refine⟨?_,?_,?_,h.sa,h.sb,h.nm⟩
 ·rw[List.append_assoc];refine List.Perm.trans ?_ hp;refine List.Perm.append_left O ?_;rw[List.singleton_append];exact List.perm_middle.symm
 ·refine List.pairwise_append.2 ⟨h.so,List.pairwise_singleton ..,λa ha b hb=>?_⟩;rw[gY]at hb;subst hb;exact hl a ha _ (List.mem_append.2 (.inr (List.mem_cons_self ..)))
 ·intro o ho x hx;rcases List.mem_append.1 ho with ho | ho
  ·exact hl o ho x (by
    rcases List.mem_append.1 hx with hx | hx
    ·exact List.mem_append.2 (.inl hx)
    ·exact List.mem_append.2 (.inr (List.mem_cons_of_mem _ hx)))
  ·rw[gY]at ho;subst ho;rcases List.mem_append.1 hx with hx | hx
   ·have hi:i<A.length:=by
     rcases Nat.lt_or_ge i A.length with h' | h'
     ·exact h'
     ·rw[List.drop_of_length_le h']at hx;simp at hx
    have ha:=XO h.sa hi (UG (n2 _ (uG hi))) x hx;exact ord_trans (n3 _ (uG hj)) (n2 _ (uG hi)) (n2 x hx) (hle hi) ha
   ·exact XO h.sb hj hs x (by rw[e];exact List.mem_cons_of_mem _ hx)
theorem uT.done {l A B O:List Rec}{i j:Nat}(h:uT l A B O i j)(hi:A.length<=i)(hj:B.length<=j):zL l O:=by
 have hp:=h.perm;rw[List.drop_of_length_le hi,List.drop_of_length_le hj,List.append_nil,List.append_nil]at hp;exact⟨hp,h.so⟩
theorem uT.len {l A B O:List Rec}{i j:Nat}(h:uT l A B O i j):O.length+(A.length-i)+(B.length-j)=l.length:=by
 have:=h.perm.length_eq;simp at this;omega
theorem Ut {l:List Rec}(h:l.length<2):zL l l:=⟨List.Perm.refl _,by
 match l,h with
 | [],_=>exact List.Pairwise.nil
 | [a],_=>exact List.pairwise_singleton ..⟩
end zn
theorem vM {w:World}{b off n cap k:Nat}{l:List Rec}(h:ql w (.slice (some ⟨b,off,none⟩) n cap) l)(hk:k<=l.length):ql w (.slice (some ⟨b,off,none⟩) k cap) (l.take k):=by
 obtain⟨a,c,hv,hc,hr⟩:=h;simp only[gL]at hv;obtain⟨rfl,rfl,rfl⟩:=hv;refine⟨_,cap,by rw[List.length_take,Nat.min_eq_left hk],by rw[List.length_take];omega,λj hj=>?_⟩;rw[List.length_take]at hj;rw[List.getElem_take];exact hr j (by omega)
theorem ZF {w:World}{b off n cap k:Nat}{l:List Rec}(h:ql w (.slice (some ⟨b,off,none⟩) n cap) l)(hk:k<=l.length):ql w (.slice (some ⟨b,off+k*5,none⟩) (n-k) (cap-k)) (l.drop k):=by
 obtain⟨a,c,hv,hc,hr⟩:=h;simp only[gL]at hv;obtain⟨rfl,rfl,rfl⟩:=hv;refine⟨_,cap-k,by rw[He],by rw[He];omega,λj hj=>?_⟩;rw[He]at hj;rw[List.getElem_drop];obtain⟨b',off',he,hl,ha⟩:=hr (k+j) (by omega);simp only[gM,Addr.mk.injEq,and_true]at he;obtain⟨rfl,rfl⟩:=he;refine⟨b,off+k*5,rfl,hl,?_⟩;rw[show off+k*5+j*5=off+(k+j)*5 by omega];exact ha
def Kh (l:List Rec)(w:World)(e:Ending)(w':World):Prop:=∃v L,e= .returned v/\Below w.heap.size w w'/\zL l L/\w'.ownsRow w.heap.size 80 5 v L.length (qw L)
def Halves (l:List Rec)(k:Nat)(w:World)(av bv:Value)(W:World):Prop:=
 ∃ga ca A gb cb B,av= .slice (some ⟨ga,0,none⟩) A.length ca/\bv= .slice (some ⟨gb,0,none⟩) B.length cb/\ql W av A/\ql W bv B/\zL (l.take k) A/\zL (l.drop k) B/\Below w.heap.size w W
theorem halves_row {l A:List Rec}{w w':World}{v:Value}(hs:zL l A)(hl:0<l.length)(hv:w'.ownsRow w.heap.size 80 5 v A.length (qw A)):∃g c,v= .slice (some ⟨g,0,none⟩) A.length c:=by
 have hn:=hs.1.length_eq;obtain⟨g,c,hv',_⟩:=hv.form (by omega);exact⟨g,c,hv'⟩
theorem rsorted_step (l:List Rec)(hl:l.length<=1000000)(hn:zn.jN l)(b off cap:Nat)(h2:2<=l.length)(w:World)(hrv:ql w (.slice (some ⟨b,off,none⟩) l.length cap) l)
 (ih:∀(l':List Rec),l'.length<l.length->zn.jN l'->∀(v:Value) (w:World),zx v->ql w v l'->Calls Tryz.prog 83 #[v] w λe w'=>Kh l' w e w'):
 Calls Tryz.prog 83 #[.slice (some ⟨b,off,none⟩) l.length cap] w λe w'=>Kh l w e w':=by
 obtain⟨n,hnl⟩:=yM l.length;have hcap:l.length<=cap:=by
  obtain⟨a,c,hv,hc,_⟩:=hrv;simp only[gL]at hv;omega
 have hA:∀X,Below w.heap.size w X->Calls Tryz.prog 83 #[.slice (some ⟨b,off,none⟩) (n / 2) cap] X λe w'=>Kh (l.take (n / 2)) X e w':=λX hX=>
  ih _ (by rw[List.length_take];omega) (λr hr=>hn r (List.mem_of_mem_take hr)) _ X (.inr ⟨_,_,_,_,rfl⟩) (vM (hrv.below hX) (by omega))
 have hBq:∀X,Below w.heap.size w X->Calls Tryz.prog 83 #[.slice (some ⟨b,off+n / 2*5,none⟩) (n-n / 2) (cap-n / 2)] X λe w'=>Kh (l.drop (n / 2)) X e w':=λX hX=>
  ih _ (by rw[He];omega) (λr hr=>hn r (List.mem_of_mem_drop hr)) _ X (.inr ⟨_,_,_,_,rfl⟩) (by have:=ZF (k:=n / 2) (hrv.below hX) (by omega);rw[hnl];rw[hnl]at this;exact this)
 have hlen2:((n:Int) / 2)=((n / 2:Nat):Int):=by omega
 have hq1:n / 2<=cap:=by omega
 have hq2:¬cap=n / 2:=by omega
 have hq3:n / 2<=n:=by omega
 have hq4:n<=cap:=by omega
 have h2n:2<=n:=by omega
 have hln:n<=1000000:=by omega
 have hs0:(0:Int)<=(n:Int) / 2:=by omega
 have hs1:(n:Int) / 2<=(cap:Int):=by omega
 have hs2:(n:Int) / 2<=(n:Int):=by omega
 have hs3:((n:Int) / 2).toNat=n / 2:=by omega
 have hs4:(n:Int)<=(cap:Int):=by omega
 have hs5:IntKind.i64.wrap ((n:Int) / 2)=(n:Int) / 2:=Hg _ (by omega);have hsA:(l.take (n / 2)).length=n / 2:=by rw[List.length_take];omega
 have hsB:(l.drop (n / 2)).length=n-n / 2:=by rw[He];omega
 rw[<- hnl];obtain⟨Jz,JB,Km,Qq,QI⟩:=info_parts kT;have Ve:=qe JB;have Vd:=qe Km;have ZK:=qe Qq;have ZJ:=qe QI;clear JB Km Qq QI;have HA:=qe hA;have HBQ:=qe hBq;have HNL:=qe hnl;have HN:=qe hn;have HRV:=qe hrv;have IH:=qe ih;have HLEN2:=qe hlen2;have HSA:=qe hsA;have HSB:=qe hsB;clear hA hBq hnl hn hrv ih hlen2 hsA hsB;clear h2 hl hcap
 go_enter Tryz.func83,Tryz.ntmps83
 go_wp2_with fail;go_upto_region 3 with fail
 go_cut [3,4] (λav bv W=>Halves l (n / 2) w av bv W)
 case first=>
  go_region_held3 (λX=>Below w.heap.size w X)
   (first | assumption | exact(gJ _ _).drew)
   (first
    | (go_at_call 83;(with_reducible refine(HA.out _ (by assumption)).mono ?_);rintro e wA ⟨vA,LA,rfl,hbA,hsA,hoA⟩;have uY:=Below.trans (B:=w.heap.size) (a:=w) (by assumption) (hbA.mono (Below.size (by assumption))))
    | (go_at_call 83;(with_reducible refine(HBQ.out _ (by assumption)).mono ?_);rintro e wB ⟨vB,LB,rfl,hbB,hsB,hoB⟩;have VN:=Below.trans (B:=w.heap.size) (a:=w) (by assumption) (hbB.mono (Below.size (by assumption)))))
  all_goals
   obtain⟨ga,ca,rfl⟩:=halves_row hsA (by rw[HSA.out];omega) hoA;obtain⟨gb,cb,rfl⟩:=halves_row hsB (by rw[HSB.out];omega) hoB;go_wp2_with fail;go_meet
   first
    | exact⟨ga,ca,LA,gb,cb,LB,rfl,rfl,(qF hoA).below hbB,qF hoB,hsA,hsB,VN⟩
    | exact⟨ga,ca,LA,gb,cb,LB,rfl,rfl,qF hoA,(qF hoB).below hbA,hsA,hsB,uY⟩
 case rest=>
  obtain⟨ga,ca,A,gb,cb,B,rfl,rfl,hra,hrb,hsa,hsb,hbc⟩:=hcut;have hM:=zn.uT.start hsa hsb HN.out;obtain⟨_,_,va,hca,cellA⟩:=hra;obtain⟨_,_,vb,hcb,cellB⟩:=hrb;simp only[gL]at va vb;obtain⟨rfl,_,rfl⟩:=va;obtain⟨rfl,_,rfl⟩:=vb;have hAl:A.length<=1000000:=by rw[hsa.1.length_eq,HSA.out];omega
  have hBl:B.length<=1000000:=by rw[hsb.1.length_eq,HSB.out];omega
  have hcs:=hbc.size;have HM:=qe hM;have CELLA:=qe cellA;have CELLB:=qe cellB;have HBC:=qe hbc;have HSA:=qe hsa;have HSB:=qe hsb;clear hM cellA cellB hbc hsa hsb;clear hs0 hs1 hs2 hs3 hs4 hs5 hq1 hq2 hq3 hq4;go_wp2_with fail
  go_loopw [3,4,5] (λav bv ov wr=>∃(i j oa ob na nb ka kb:Nat) (O:List Rec),i+na=A.length/\j+nb=B.length/\(0<na->oa=i*5)/\(0<nb->ob=j*5)/\na<=ka/\nb<=kb/\
   av= .slice (some ⟨ga,oa,none⟩) na ka/\bv= .slice (some ⟨gb,ob,none⟩) nb kb/\zn.uT l A B O i j/\wr.ownsRow wc.heap.size 80 5 ov O.length (qw O)/\Below wc.heap.size wc wr) (λav bv _ _=>Xx av+Xx bv)
  case atStart=>exact⟨0,0,0,0,A.length,B.length,_,_,[],by omega,by omega,(λ_=>rfl),(λ_=>rfl),hca,hcb,rfl,rfl,HM.out,gZ _ _ _ _,gJ _ _⟩
  case round=>
   obtain⟨i,j,oa,ob,na,nb,ka,kb,O,hi,hj,ho1,ho2,hka,hkb,rfl,rfl,hm,hown,hB⟩:=hrel;obtain⟨ao,co,rfl,_⟩:=qj hown;have hOl:=hm.len;have HNL':=HNL.out;have hO1:O.length<=1000000:=by omega
   have hsr:=hB.size;clear HNL';have HI:=qe hi;have HJ:=qe hj;have HO1:=qe ho1;have HO2:=qe ho2;have HMI:=qe hm;have HOWN:=qe hown;have HB:=qe hB;clear hi hj ho1 ho2 hm hown hB hOl;by_cases hna:na=0
   ·subst hna;by_cases hnb:nb=0
    ·subst hnb;have HD:=qe (HMI.out.done (by have:=HI.out;omega) (by have:=HJ.out;omega));have HBE:=qe (HBC.out.trans (HB.out.mono hcs));go_wp2_with fail;go_ret;exact⟨_,O,rfl,HBE.out,HD.out,qK HOWN.out hcs⟩
    ·have hb0:0<nb:=by omega
     have hb1:(0:Int)<(nb:Int):=by omega
     have hb2:((nb:Int) == 0)=false:=by rw[gG];omega
     have hjl:j<B.length:=by have:=HJ.out;omega
     have HM2:=qe (HMI.out.right hjl (λh=>by have:=HI.out;omega));clear hnb;obtain rfl:ob=j*5:=HO2.out hb0;go_wp2_with fail;refine qp (by kernel_rfl) (by kernel_rfl) ?_
     repeat (with_reducible refine Hu (λK hK=>?_);go_simp;(try simp only[undef]);first | (with_reducible refine hK _ ?_;clear hK K))
     refine Hw ?_
     (try simp only[show Value.tuple #[]=undef from rfl])
     intro W hW;have hBW:Below wr.heap.size wr W:=by obtain⟨g,rfl⟩:=hW;exact qD _ g
     clear hW;have HBW:=qe (HB.out.trans (hBW.mono hsr));have JR:=qe (ownsRow_below HOWN.out hBW);clear hBW;have hX:j<B.length:=by omega
     obtain⟨_,_,he,hgl,rx⟩:=CELLB.out j hX;simp only[gM,Addr.mk.injEq,and_true]at he;obtain⟨rfl,rfl⟩:=he;rw[Nat.zero_add]at rx;obtain⟨c0,c1,c2,c3,c4⟩:=rx.keep (HBW.out.block _ hgl);have Zq:=qe (HBW.out.alloc HBW.out.size (.cells (recC B[j]).toArray 80));have vH:=qe (qm JR.out λb hb=>Below.heap_alloc W (.cells (recC B[j]).toArray 80) b (JR.out.lt b hb).2);have Zp:=qe (show O.length+1<=maxLen from by unfold maxLen;omega);have Zm:=qe (show(O.length+1)*56<=140737488355328 from by omega);have vG:=qe (show wc.heap.size<=(W.alloc (.cells (recC B[j]).toArray 80)).heap.size from by have:=HBW.out.size;simp;omega);have uJ:=qe (ve W (recC B[j]) 80);go_wp2_with (at_builtin;refine qW _ rfl _ _ 31 rfl wc.heap.size 80 Jz (.agg #[.string ⟨#[]⟩,.int .i64 0,.int .i64 0,.int .i64 0,.string ⟨#[]⟩]) 5 56 Tryz.underlying31 Ve.out Vd.out ZK.out ZJ.out rfl (by decide) _ _ _ rfl vH.out ⟨W.heap.size,0,none⟩ 1 1 (recC B[j]) rfl rfl uJ.out (by simp[Value.oneCell']) Zp.out Zm.out vG.out ?_);intro v' w10 zz jg jM;have yt:=qe (Zq.out.grown jg vG.out (λj hj=>(vH.out.lt j hj).1));have zV:=qe zz;have JS:=qe jg;have QM:=qe jM;clear zz jg jM Zq vH Zp Zm vG uJ;clear c0 c1 c2 c3 c4;by_cases hk1:kb=1
     ·obtain rfl:nb=1:=by omega
      obtain rfl:kb=1:=hk1;go_wp2_with fail
      go_roundw
      case rel=>
       refine⟨i,(j+1),_,_,_,_,_,_,O ++ [B[j]],?_,?_,?_,?_,?_,?_,rfl,rfl,HM2.out,?_,yt.out⟩
       rotate_left 6
       ·have h:=zV.out;rw[gK,ko];exact h
       all_goals
        have hi:=HI.out;have hj:=HJ.out;have hp1:=HO1.out;have hp2:=HO2.out;clear yt zV JS QM;omega
      case measure=>simp[Xx]
     ·go_wp2_with fail
      go_roundw
      case rel=>
       refine⟨i,(j+1),_,_,_,_,_,_,O ++ [B[j]],?_,?_,?_,?_,?_,?_,rfl,rfl,HM2.out,?_,yt.out⟩
       rotate_left 6
       ·have h:=zV.out;rw[gK,ko];exact h
       all_goals
        have hi:=HI.out;have hj:=HJ.out;have hp1:=HO1.out;have hp2:=HO2.out;clear yt zV JS QM;omega
      case measure=>simp[Xx];omega
   ·have ha0:0<na:=by omega
    have ha1:(0:Int)<(na:Int):=by omega
    have ha2:((na:Int) == 0)=false:=by rw[gG];omega
    have hil:i<A.length:=by have:=HI.out;omega
    clear hna;by_cases hnb:nb=0
    ·subst hnb;have HM2:=qe (HMI.out.left hil (λh=>by have:=HJ.out;omega));obtain rfl:oa=i*5:=HO1.out ha0;go_wp2_with fail;refine qp (by kernel_rfl) (by kernel_rfl) ?_
     repeat (with_reducible refine Hu (λK hK=>?_);go_simp;(try simp only[undef]);first | (with_reducible refine hK _ ?_;clear hK K))
     refine Hw ?_
     (try simp only[show Value.tuple #[]=undef from rfl])
     intro W hW;have hBW:Below wr.heap.size wr W:=by obtain⟨g,rfl⟩:=hW;exact qD _ g
     clear hW;have HBW:=qe (HB.out.trans (hBW.mono hsr));have JR:=qe (ownsRow_below HOWN.out hBW);clear hBW;have hX:i<A.length:=by omega
     obtain⟨_,_,he,hgl,rx⟩:=CELLA.out i hX;simp only[gM,Addr.mk.injEq,and_true]at he;obtain⟨rfl,rfl⟩:=he;rw[Nat.zero_add]at rx;obtain⟨c0,c1,c2,c3,c4⟩:=rx.keep (HBW.out.block _ hgl);have Zq:=qe (HBW.out.alloc HBW.out.size (.cells (recC A[i]).toArray 80));have vH:=qe (qm JR.out λb hb=>Below.heap_alloc W (.cells (recC A[i]).toArray 80) b (JR.out.lt b hb).2);have Zp:=qe (show O.length+1<=maxLen from by unfold maxLen;omega);have Zm:=qe (show(O.length+1)*56<=140737488355328 from by omega);have vG:=qe (show wc.heap.size<=(W.alloc (.cells (recC A[i]).toArray 80)).heap.size from by have:=HBW.out.size;simp;omega);have uJ:=qe (ve W (recC A[i]) 80);go_wp2_with (at_builtin;refine qW _ rfl _ _ 31 rfl wc.heap.size 80 Jz (.agg #[.string ⟨#[]⟩,.int .i64 0,.int .i64 0,.int .i64 0,.string ⟨#[]⟩]) 5 56 Tryz.underlying31 Ve.out Vd.out ZK.out ZJ.out rfl (by decide) _ _ _ rfl vH.out ⟨W.heap.size,0,none⟩ 1 1 (recC A[i]) rfl rfl uJ.out (by simp[Value.oneCell']) Zp.out Zm.out vG.out ?_);intro v' w10 zz jg jM;have yt:=qe (Zq.out.grown jg vG.out (λj hj=>(vH.out.lt j hj).1));have zV:=qe zz;have JS:=qe jg;have QM:=qe jM;clear zz jg jM Zq vH Zp Zm vG uJ;clear c0 c1 c2 c3 c4;by_cases hk1:ka=1
     ·obtain rfl:na=1:=by omega
      obtain rfl:ka=1:=hk1;go_wp2_with fail
      go_roundw
      case rel=>
       refine⟨(i+1),j,_,_,_,_,_,_,O ++ [A[i]],?_,?_,?_,?_,?_,?_,rfl,rfl,HM2.out,?_,yt.out⟩
       rotate_left 6
       ·have h:=zV.out;rw[gK,ko];exact h
       all_goals
        have hi:=HI.out;have hj:=HJ.out;have hp1:=HO1.out;have hp2:=HO2.out;clear yt zV JS QM;omega
      case measure=>simp[Xx]
     ·go_wp2_with fail
      go_roundw
      case rel=>
       refine⟨(i+1),j,_,_,_,_,_,_,O ++ [A[i]],?_,?_,?_,?_,?_,?_,rfl,rfl,HM2.out,?_,yt.out⟩
       rotate_left 6
       ·have h:=zV.out;rw[gK,ko];exact h
       all_goals
        have hi:=HI.out;have hj:=HJ.out;have hp1:=HO1.out;have hp2:=HO2.out;clear yt zV JS QM;omega
      case measure=>simp[Xx];omega
    ·have hb0:0<nb:=by omega
     have hb1:(0:Int)<(nb:Int):=by omega
     have hb2:((nb:Int) == 0)=false:=by rw[gG];omega
     have hjl:j<B.length:=by have:=HJ.out;omega
     clear hnb;obtain rfl:oa=i*5:=HO1.out ha0;obtain rfl:ob=j*5:=HO2.out hb0;have nmA:qo A[i].owner=true:=(HMI.out.named).2.1 _ (zn.uG hil);have nmB:qo B[j].owner=true:=(HMI.out.named).2.2 _ (zn.uG hjl);have szA:=qV nmA;have szB:=qV nmB;obtain⟨_,_,he,hgal,ra⟩:=CELLA.out i hil;simp only[gM,Addr.mk.injEq,and_true]at he;obtain⟨rfl,rfl⟩:=he;rw[Nat.zero_add]at ra;obtain⟨_,_,he,hgbl,rb⟩:=CELLB.out j hjl;simp only[gM,Addr.mk.injEq,and_true]at he;obtain⟨rfl,rfl⟩:=he;rw[Nat.zero_add]at rb;have ra:=ra.keep (HB.out.block _ hgal);have rb:=rb.keep (HB.out.block _ hgbl);obtain⟨x0,x1,x2,x3,x4⟩:=ra;obtain⟨y0,y1,y2,y3,y4⟩:=rb;have e0:=qh x0;have e1:=qh x1;have e2:=qh x2;have e3:=qh x3;have e4:=qh x4;have f0:=qh y0;have f1:=qh y1;have f2:=qh y2;have f3:=qh y3;have f4:=qh y4
     cases hd:decide (zn.zY B[j] A[i]<0)
     ·have CP:Hid (∀g,Calls Tryz.prog 134 #[yf B[j],yf A[i]] (gw wr g) λe w''=>e= .returned (.bool false)/\∃g',w''=gw wr g'):=qe λg=>qY (by rw[<- hd];exact Xb _ _ (by omega) (by omega) _);have HM2:=qe (HMI.out.left hil (λh=>(zn.ord_le nmA nmB).2 (by rw[decide_eq_false_iff_not]at hd;omega)));clear hd x0 x1 x2 x3 x4 y0 y1 y2 y3 y4 nmA nmB;go_wp2_with fail;refine qp (by kernel_rfl) (by kernel_rfl) ?_
      repeat (with_reducible refine Hu (λK hK=>?_);go_simp;(try simp only[undef]);first | (with_reducible refine hK _ ?_;clear hK K) | (apply gW;refine⟨λ_=>?_,hK _ ?_⟩;(first | (go_at_call 134;with_reducible exact CP.out _));clear hK K) | (with_reducible refine⟨λ_ h=>(by cases h),?_⟩;with_reducible refine hK _ ?_;clear hK K))
      refine Hw ?_
      (try simp only[show Value.tuple #[]=undef from rfl])
      intro W hW;have hBW:Below wr.heap.size wr W:=by obtain⟨g,rfl⟩:=hW;exact qD _ g
      clear hW;clear e0 e1 e2 e3 e4 f0 f1 f2 f3 f4;have HBW:=qe (HB.out.trans (hBW.mono hsr));have JR:=qe (ownsRow_below HOWN.out hBW);clear hBW;have hX:i<A.length:=by omega
      obtain⟨_,_,he,hgl,rx⟩:=CELLA.out i hX;simp only[gM,Addr.mk.injEq,and_true]at he;obtain⟨rfl,rfl⟩:=he;rw[Nat.zero_add]at rx;obtain⟨c0,c1,c2,c3,c4⟩:=rx.keep (HBW.out.block _ hgl);have Zq:=qe (HBW.out.alloc HBW.out.size (.cells (recC A[i]).toArray 80));have vH:=qe (qm JR.out λb hb=>Below.heap_alloc W (.cells (recC A[i]).toArray 80) b (JR.out.lt b hb).2);have Zp:=qe (show O.length+1<=maxLen from by unfold maxLen;omega);have Zm:=qe (show(O.length+1)*56<=140737488355328 from by omega);have vG:=qe (show wc.heap.size<=(W.alloc (.cells (recC A[i]).toArray 80)).heap.size from by have:=HBW.out.size;simp;omega);have uJ:=qe (ve W (recC A[i]) 80);go_wp2_with (at_builtin;refine qW _ rfl _ _ 31 rfl wc.heap.size 80 Jz (.agg #[.string ⟨#[]⟩,.int .i64 0,.int .i64 0,.int .i64 0,.string ⟨#[]⟩]) 5 56 Tryz.underlying31 Ve.out Vd.out ZK.out ZJ.out rfl (by decide) _ _ _ rfl vH.out ⟨W.heap.size,0,none⟩ 1 1 (recC A[i]) rfl rfl uJ.out (by simp[Value.oneCell']) Zp.out Zm.out vG.out ?_);intro v' w10 zz jg jM;have yt:=qe (Zq.out.grown jg vG.out (λj hj=>(vH.out.lt j hj).1));have zV:=qe zz;have JS:=qe jg;have QM:=qe jM;clear zz jg jM Zq vH Zp Zm vG uJ;clear c0 c1 c2 c3 c4;by_cases hk1:ka=1
      ·obtain rfl:na=1:=by omega
       obtain rfl:ka=1:=hk1;go_wp2_with fail
       go_roundw
       case rel=>
        refine⟨(i+1),j,_,_,_,_,_,_,O ++ [A[i]],?_,?_,?_,?_,?_,?_,rfl,rfl,HM2.out,?_,yt.out⟩
        rotate_left 6
        ·have h:=zV.out;rw[gK,ko];exact h
        all_goals
         have hi:=HI.out;have hj:=HJ.out;have hp1:=HO1.out;have hp2:=HO2.out;clear yt zV JS QM;omega
       case measure=>simp[Xx]
      ·go_wp2_with fail
       go_roundw
       case rel=>
        refine⟨(i+1),j,_,_,_,_,_,_,O ++ [A[i]],?_,?_,?_,?_,?_,?_,rfl,rfl,HM2.out,?_,yt.out⟩
        rotate_left 6
        ·have h:=zV.out;rw[gK,ko];exact h
        all_goals
         have hi:=HI.out;have hj:=HJ.out;have hp1:=HO1.out;have hp2:=HO2.out;clear yt zV JS QM;omega
       case measure=>simp[Xx];omega
     ·have CP:Hid (∀g,Calls Tryz.prog 134 #[yf B[j],yf A[i]] (gw wr g) λe w''=>e= .returned (.bool true)/\∃g',w''=gw wr g'):=qe λg=>qY (by rw[<- hd];exact Xb _ _ (by omega) (by omega) _);have HM2:=qe (HMI.out.right hjl (λh=>by rw[decide_eq_true_iff]at hd;omega));clear hd x0 x1 x2 x3 x4 y0 y1 y2 y3 y4 nmA nmB;go_wp2_with fail;refine qp (by kernel_rfl) (by kernel_rfl) ?_
      repeat (with_reducible refine Hu (λK hK=>?_);go_simp;(try simp only[undef]);first | (with_reducible refine hK _ ?_;clear hK K) | (apply gW;refine⟨λ_=>?_,hK _ ?_⟩;(first | (go_at_call 134;with_reducible exact CP.out _));clear hK K) | (with_reducible refine⟨λ_ h=>(by cases h),?_⟩;with_reducible refine hK _ ?_;clear hK K))
      refine Hw ?_
      (try simp only[show Value.tuple #[]=undef from rfl])
      intro W hW;have hBW:Below wr.heap.size wr W:=by obtain⟨g,rfl⟩:=hW;exact qD _ g
      clear hW;clear e0 e1 e2 e3 e4 f0 f1 f2 f3 f4;have HBW:=qe (HB.out.trans (hBW.mono hsr));have JR:=qe (ownsRow_below HOWN.out hBW);clear hBW;have hX:j<B.length:=by omega
      obtain⟨_,_,he,hgl,rx⟩:=CELLB.out j hX;simp only[gM,Addr.mk.injEq,and_true]at he;obtain⟨rfl,rfl⟩:=he;rw[Nat.zero_add]at rx;obtain⟨c0,c1,c2,c3,c4⟩:=rx.keep (HBW.out.block _ hgl);have Zq:=qe (HBW.out.alloc HBW.out.size (.cells (recC B[j]).toArray 80));have vH:=qe (qm JR.out λb hb=>Below.heap_alloc W (.cells (recC B[j]).toArray 80) b (JR.out.lt b hb).2);have Zp:=qe (show O.length+1<=maxLen from by unfold maxLen;omega);have Zm:=qe (show(O.length+1)*56<=140737488355328 from by omega);have vG:=qe (show wc.heap.size<=(W.alloc (.cells (recC B[j]).toArray 80)).heap.size from by have:=HBW.out.size;simp;omega);have uJ:=qe (ve W (recC B[j]) 80);go_wp2_with (at_builtin;refine qW _ rfl _ _ 31 rfl wc.heap.size 80 Jz (.agg #[.string ⟨#[]⟩,.int .i64 0,.int .i64 0,.int .i64 0,.string ⟨#[]⟩]) 5 56 Tryz.underlying31 Ve.out Vd.out ZK.out ZJ.out rfl (by decide) _ _ _ rfl vH.out ⟨W.heap.size,0,none⟩ 1 1 (recC B[j]) rfl rfl uJ.out (by simp[Value.oneCell']) Zp.out Zm.out vG.out ?_);intro v' w10 zz jg jM;have yt:=qe (Zq.out.grown jg vG.out (λj hj=>(vH.out.lt j hj).1));have zV:=qe zz;have JS:=qe jg;have QM:=qe jM;clear zz jg jM Zq vH Zp Zm vG uJ;clear c0 c1 c2 c3 c4;by_cases hk1:kb=1
      ·obtain rfl:nb=1:=by omega
       obtain rfl:kb=1:=hk1;go_wp2_with fail
       go_roundw
       case rel=>
        refine⟨i,(j+1),_,_,_,_,_,_,O ++ [B[j]],?_,?_,?_,?_,?_,?_,rfl,rfl,HM2.out,?_,yt.out⟩
        rotate_left 6
        ·have h:=zV.out;rw[gK,ko];exact h
        all_goals
         have hi:=HI.out;have hj:=HJ.out;have hp1:=HO1.out;have hp2:=HO2.out;clear yt zV JS QM;omega
       case measure=>simp[Xx]
      ·go_wp2_with fail
       go_roundw
       case rel=>
        refine⟨i,(j+1),_,_,_,_,_,_,O ++ [B[j]],?_,?_,?_,?_,?_,?_,rfl,rfl,HM2.out,?_,yt.out⟩
        rotate_left 6
        ·have h:=zV.out;rw[gK,ko];exact h
        all_goals
         have hi:=HI.out;have hj:=HJ.out;have hp1:=HO1.out;have hp2:=HO2.out;clear yt zV JS QM;omega
       case measure=>simp[Xx];omega
theorem Ky (l:List Rec)(hl:l.length<2)(v:Value)(hf:zx v)(w:World)(hrv:ql w v l):
 Calls Tryz.prog 83 #[v] w λe w'=>Kh l w e w':=by
 rcases hf with rfl | ⟨b,off,n,cap,rfl⟩
 ·have h0:l= []:=by
   obtain⟨a,c,hv,_⟩:=hrv;simp only[gL]at hv;exact Hm hv.2.1.symm
  subst h0
  go_enter Tryz.func83,Tryz.ntmps83
  go_wp2_with fail;go_ret;exact⟨_,[],rfl,gJ _ _,zn.Ut (by decide),gZ _ _ _ _⟩
 ·obtain⟨hn,hcell⟩:=YR hrv;subst hn
  have hone:∀u∈qw l,u.oneCell'=true:=λu hu=>by
   unfold qw at hu;obtain⟨r,_,hr⟩:=List.mem_flatMap.1 hu;simp only[List.mem_cons,List.not_mem_nil,or_false]at hr;rcases hr with rfl | rfl | rfl | rfl | rfl <;> rfl
  have hln:=zM l;have hl':(l.length:Int)<2:=by omega
  have hnl:World.ownsRow w w.heap.size 80 5 (.slice none 0 0) 0 []:=gZ _ _ _ _;have hnews:∀j u,(qw l)[j]? =some u->w.cell? ((⟨b,off,none⟩:Addr).add j)=some u:=λj u hu=>by rw[Addr.add_lit];exact hcell j u hu
  have p1:0+l.length<=maxLen:=by unfold maxLen;omega
  have p2:(0+l.length)*56<=140737488355328:=by omega
  have hlt:=qe hl;obtain⟨Jz,JB,Km,Qq,QI⟩:=info_parts kT;have Ve:=qe JB;have Vd:=qe Km;have ZK:=qe Qq;have ZJ:=qe QI;clear JB Km Qq QI;have HONE:=qe hone;have HLN:=qe hln;have HNL:=qe hnl;have xN:=qe hnews;have P1:=qe p1;have P2:=qe p2;have HCELL:=qe hcell;clear hone hln hnl hnews p1 p2 hcell;clear hl
  go_enter Tryz.func83,Tryz.ntmps83
  go_wp2_with (at_builtin;refine qW _ rfl _ _ 31 rfl w.heap.size 80 Jz (.agg #[.string ⟨#[]⟩,.int .i64 0,.int .i64 0,.int .i64 0,.string ⟨#[]⟩]) 5 56 Tryz.underlying31 Ve.out Vd.out ZK.out ZJ.out rfl (by decide) _ _ _ rfl HNL.out ⟨b,off,none⟩ l.length cap (qw l) rfl HLN.out xN.out HONE.out P1.out P2.out (gI _) ?_);intro v' w10 zz jg jM;have yt:=qe ((gJ w.heap.size w).grown jg (gI _) (λj hj=>by cases hj));have zV:=qe zz;clear zz;clear jg jM;go_wp2_with fail;go_ret;refine⟨_,l,rfl,yt.out,zn.Ut hlt.out,?_⟩;have h:=zV.out;exact h
theorem rsorted_any:∀(n:Nat) (l:List Rec),l.length<=n->n<=1000000->zn.jN l->∀(v:Value) (w:World),zx v->ql w v l->Calls Tryz.prog 83 #[v] w λe w'=>Kh l w e w':=by
 intro n
 induction n with
 | zero=>intro l hl hn hnm v w hf hrv;exact Ky l (by omega) v hf w hrv
 | succ n ih=>
   intro l hl hn hnm v w hf hrv;by_cases h2:l.length<2
   ·exact Ky l h2 v hf w hrv
   ·rcases hf with rfl | ⟨b,off,m,cap,rfl⟩
    ·obtain⟨a,c,hv,_⟩:=hrv;simp only[gL]at hv;omega
    ·obtain⟨hm,_⟩:=YR hrv;subst hm;exact rsorted_step l (by omega) hnm b off cap (by omega) w hrv (λl' hl' hn' v' w' hf' hr'=>ih l' (by omega) (by omega) hn' v' w' hf' hr')
end Go.Proofs.YtpcmilhjpmlbpaaGreatDoor
