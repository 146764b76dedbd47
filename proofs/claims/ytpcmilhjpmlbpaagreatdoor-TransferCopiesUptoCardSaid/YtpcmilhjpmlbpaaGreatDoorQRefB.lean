import Derived.Test.YtpcmilhjpmlbpaaGreatDoorQZoneP
import Derived.Test.YtpcmilhjpmlbpaaGreatDoorQRefF
import Derived.Test.YtpcmilhjpmlbpaaGreatDoorQRefP
import Derived.Deep.LoopGhost
import Derived.Deep.RegionHeld3
set_option maxRecDepth 100000
set_option maxHeartbeats 2000000
namespace Go.Proofs.YtpcmilhjpmlbpaaGreatDoor
open Go.RowKit Go.Shelf Go.WideMaps nm od
end Go.Proofs.YtpcmilhjpmlbpaaGreatDoor
namespace Go.Proofs.YtpcmilhjpmlbpaaGreatDoor
open Go.RowKit Go.Shelf Go.WideMaps nm od
namespace zn
end zn
end Go.Proofs.YtpcmilhjpmlbpaaGreatDoor
namespace Go.Proofs.YtpcmilhjpmlbpaaGreatDoor
open Go.RowKit Go.Shelf Go.WideMaps nm od
structure jc (w:World)(top z:Nat)(qf:ByteArray)(L:List Rec):Prop where
 v:xS w top z qf L
 small:L.length≤2000
 named:zn.jy L
 sorted:L.Pairwise (fun a b=>zn.zR a b≤0)
theorem jc.kept {w w':World}{top z:Nat}{qf:ByteArray}{L:List Rec}(h:jc w top z qf L)(hb:Below w.heap.size w w'):jc w' top z qf L:=
 ⟨h.v.below (hb.mono h.v.1),h.small,h.named,h.sorted⟩
theorem fnd_store {B g:Nat}{w wc:World}{T:TypeId}{a0 a1 a2 a3 a4:Value}(h:wc.heap[g]? =some (.cells #[a0,a1,a2,a3,a4] T (0,0)))(hB:Below B w wc)(hg:B≤g)(v0 v1 v2 v3 v4:Value):
 (((((wc.setCell ⟨g,0,none⟩ v0).setCell ⟨g,1,none⟩ v1).setCell ⟨g,2,none⟩ v2).setCell ⟨g,3,none⟩ v3).setCell ⟨g,4,none⟩ v4).heap[g]? =some (.cells #[v0,v1,v2,v3,v4] T (0,0))∧
 Below B w (((((wc.setCell ⟨g,0,none⟩ v0).setCell ⟨g,1,none⟩ v1).setCell ⟨g,2,none⟩ v2).setCell ⟨g,3,none⟩ v3).setCell ⟨g,4,none⟩ v4)∧
 ∀b,b≠g→(((((wc.setCell ⟨g,0,none⟩ v0).setCell ⟨g,1,none⟩ v1).setCell ⟨g,2,none⟩ v2).setCell ⟨g,3,none⟩ v3).setCell ⟨g,4,none⟩ v4).heap[b]? =wc.heap[b]?:=by
 refine⟨qy (qy (qy (qy (qy h 0 v0) 1 v1) 2 v2) 3 v3) 4 v4,((((hB.setCell hg _).setCell hg _).setCell hg _).setCell hg _).setCell hg _,fun b hb=>?_⟩
 rw[Below.heap_setCell _ _ _ _ hb,Below.heap_setCell _ _ _ _ hb,Below.heap_setCell _ _ _ _ hb,Below.heap_setCell _ _ _ _ hb,Below.heap_setCell _ _ _ _ hb]
end Go.Proofs.YtpcmilhjpmlbpaaGreatDoor
namespace Go.Proofs.YtpcmilhjpmlbpaaGreatDoor
open Go.RowKit Go.Shelf nm od
namespace zn
theorem cmpInt_neg (a b:Int):Lib.compareInt a b<0↔a<b:=by
 unfold Lib.compareInt
 split
 ·omega
 ·split <;> omega
theorem cmpBytes_neg (x y:List UInt8):Lib.compareBytes x y<0↔Op.bytesLess x y=true:=by
 obtain⟨h1,h2,h3⟩:=Us x y
 cases hl:Op.bytesLess x y
 ·cases he:x == y
  ·rw[h3 hl he];simp
  ·rw[h2 he];simp
 ·rw[h1 hl];simp
theorem ord_le {a b:Rec}(ha:qj a.owner=true)(hb:qj b.owner=true):zR a b≤0↔0≤zR b a:=Zg.le ⟨a,ha⟩ ⟨b,hb⟩
theorem ord_trans {a b d:Rec}(ha:qj a.owner=true)(hb:qj b.owner=true)(hd:qj d.owner=true)(h1:zR a b≤0)(h2:zR b d≤0):zR a d≤0:=Zg.trans ⟨a,ha⟩ ⟨b,hb⟩ ⟨d,hd⟩ h1 h2
end zn
theorem UL (x y:Rec)(hx:x.owner.size≤1099511627776)(hy:y.owner.size≤1099511627776)(w:World):
 Calls Tryz.prog 134 #[yA x,yA y] w fun e w'=>e= .returned (.bool (decide (zn.zR x y<0)))∧Below w.heap.size w w':=by
 have hB2:=Lib.hid (((Below.refl _ w).alloc (Nat.le_refl _) (.cells (recC x).toArray 80)).alloc (by simp) (.cells (recC y).toArray 80))
 have cx:=fun j v h=>qp (.cells (recC y).toArray 80) (qW w x 80 j v h)
 have cy:=fun j v h=>qW (w.alloc (.cells (recC x).toArray 80)) y 80 j v h
 simp only[World.size_alloc]at cy
 have hif:=od.Ue x y
 obtain⟨w2,hw2⟩:∃W,W=(w.alloc (.cells (recC x).toArray 80)).alloc (.cells (recC y).toArray 80):=⟨_,rfl⟩
 rw[← hw2]at hB2 cx cy
 have hz2:w2.heap.size=w.heap.size+2:=by rw[hw2];simp
 have f0:=cx 0 _ rfl
 have f1:=cx 1 _ rfl
 have f4:=cx 4 _ rfl
 have g0:=cy 0 _ rfl
 have g1:=cy 1 _ rfl
 have g4:=cy 4 _ rfl
 have lt0:w.heap.size<w2.heap.size:=by omega
 have lt1:w.heap.size+1<w2.heap.size:=by omega
 clear cx cy hz2
 have HW2:=Lib.hid hw2;have HIF:=Lib.hid hif
 clear hw2 hif
 go_enter Tryz.func134,Tryz.ntmps134
 go_wp2_with fail
 rw[← HW2.out]
 refine(rcompare_any _ _ hx hy _).mono ?_
 rintro e w3 ⟨rfl,hB3⟩
 have d1:=(hB3.cell (p:=⟨w.heap.size,1,none⟩) lt0).trans f1
 have d4:=(hB3.cell (p:=⟨w.heap.size,4,none⟩) lt0).trans f4
 have k1:=(hB3.cell (p:=⟨w.heap.size+1,1,none⟩) lt1).trans g1
 have k4:=(hB3.cell (p:=⟨w.heap.size+1,4,none⟩) lt1).trans g4
 have HB3:=Lib.hid (hB2.out.trans (hB3.mono hB2.out.size))
 clear hB3 f0 f1 f4 g0 g1 g4 lt0 lt1
 by_cases hc:zg x.owner y.owner=0
 ·have bc:(zg x.owner y.owner != 0)=false:=by rw[hc];rfl
  have Uo:=HIF.out
  rw[if_pos hc]at Uo
  by_cases ht:x.typ=y.typ
  ·have bt:(x.typ != y.typ)=false:=by rw[ht];simp
   rw[if_pos ((od.Xr _ _).2 ht)]at Uo
   have hres:decide (zn.zR x y<0)=Op.bytesLess (dt.zU x.typ x.data).toList (dt.zU y.typ y.data).toList:=by
    rw[Uo,Bool.eq_iff_iff,decide_eq_true_iff,zn.cmpBytes_neg,Lib.toList_data,Lib.toList_data]
   have e1:=qh d1
   have e2:=qh d4
   have e3:=qh k1
   have e4:=qh k4
   have CP:Hid (∀g,Calls Tryz.prog 175 #[.int .i64 x.typ,.string x.data] (gw w3 g) fun e w''=>e= .returned (.string (dt.zU x.typ x.data))∧∃g',w''=gw w3 g'):=Lib.hid fun g=>qU (ZJ _ _ _)
   have CQ:Hid (∀g,Calls Tryz.prog 175 #[.int .i64 y.typ,.string y.data] (gw w3 g) fun e w''=>e= .returned (.string (dt.zU y.typ y.data))∧∃g',w''=gw w3 g'):=Lib.hid fun g=>qU (ZJ _ _ _)
   have HC:=Lib.hid hc;have HT:=Lib.hid ht;have HIF2:=Lib.hid Uo;have zA:=Lib.hid hres
   clear hc ht Uo hres
   go_wp2_with fail
   refine ql (by kernel_rfl) (by kernel_rfl) ?_
   repeat (refine wpQuiet_step (fun K hK=>?_);go_simp;(try simp only[undef]);first | (with_reducible refine hK _ ?_;clear hK K) | (apply Exists.intro;refine⟨fun _=>?_,hK _ ?_⟩;(first | (go_at_call 175;first | with_reducible exact CP.out _ | with_reducible exact CQ.out _));clear hK K) | (refine⟨fun _ h=>(by cases h),?_⟩;with_reducible refine hK _ ?_;clear hK K))
   refine wpQuiet_nil ?_
   intro W hW
   have hBW:Below w3.heap.size w3 W:=by obtain⟨g,rfl⟩:=hW;exact qC _ g
   clear hW
   go_wp2_with fail
   go_ret
   exact⟨qI zA.out.symm,HB3.out.trans (hBW.mono HB3.out.size)⟩
  ·have bt:(x.typ != y.typ)=true:=by rw[bne_iff_ne];exact ht
   have hz:Lib.compareInt x.typ y.typ≠0:=fun h=>ht ((od.Xr _ _).1 h)
   rw[if_neg hz]at Uo
   have hres:decide (zn.zR x y<0)=decide (x.typ<y.typ):=by rw[Uo];exact decide_eq_decide.2 (zn.cmpInt_neg _ _)
   have HC:=Lib.hid hc;have HT:=Lib.hid ht;have HIF2:=Lib.hid Uo;have zA:=Lib.hid hres;have HZ:=Lib.hid hz
   clear hc ht Uo hres hz
   go_wp2_with fail
   go_ret
   exact⟨qI zA.out.symm,HB3.out⟩
 ·have bc:(zg x.owner y.owner != 0)=true:=by rw[bne_iff_ne];exact hc
  have Uo:=HIF.out
  rw[if_neg hc]at Uo
  have HC:=Lib.hid hc;have HIF2:=Lib.hid Uo
  clear hc Uo
  go_wp2_with fail
  go_ret
  exact⟨qI (by rw[HIF2.out]),HB3.out⟩
end Go.Proofs.YtpcmilhjpmlbpaaGreatDoor
namespace Go.Proofs.YtpcmilhjpmlbpaaGreatDoor
open Go.RowKit Go.Shelf nm od
namespace zn
abbrev Sd (l:List Rec):Prop:=l.Pairwise (fun a b=>zR a b≤0)
structure um (l A B O:List Rec)(i j:Nat):Prop where
 perm:(O ++ (A.drop i ++ B.drop j)).Perm l
 so:Sd O
 low:∀o∈O,∀x∈A.drop i ++ B.drop j,zR o x≤0
 sa:Sd A
 sb:Sd B
 nm:jy l
theorem um.start {l A B:List Rec}{k:Nat}(ha:zI (l.take k) A)(hb:zI (l.drop k) B)(hn:jy l):um l A B [] 0 0 where
 perm:=by
  rw[List.nil_append,List.drop_zero,List.drop_zero]
  exact((ha.1.append hb.1).trans (by rw[List.take_append_drop]))
 so:=List.Pairwise.nil
 low:=fun o ho=>by simp at ho
 sa:=ha.2
 sb:=hb.2
 nm:=hn
theorem Vx {l:List Rec}{i:Nat}(hs:Sd l)(hi:i<l.length)(hself:zR l[i] l[i]≤0):∀x∈l.drop i,zR l[i] x≤0:=fun x hx=>by
 rw[List.drop_eq_getElem_cons hi]at hx
 rcases List.mem_cons.1 hx with rfl | hx
 ·exact hself
 ·have h:=List.Pairwise.drop (i:=i) hs
  rw[List.drop_eq_getElem_cons hi,List.pairwise_cons]at h
  exact h.1 x hx
theorem um.named {l A B O:List Rec}{i j:Nat}(h:um l A B O i j):(∀x∈O,qj x.owner=true)∧(∀x∈A.drop i,qj x.owner=true)∧(∀x∈B.drop j,qj x.owner=true):=
 ⟨fun x hx=>h.nm x (h.perm.mem_iff.1 (by simp[hx])),fun x hx=>h.nm x (h.perm.mem_iff.1 (by simp[hx])),fun x hx=>h.nm x (h.perm.mem_iff.1 (by simp[hx]))⟩
theorem Kn {a:Rec}(h:qj a.owner=true):zR a a≤0:=by
 have:=Zg.self ⟨a,h⟩
 have h2:zR a a=0:=this
 omega
theorem kR {l:List Rec}{i:Nat}(h:i<l.length):l[i]∈l.drop i:=by rw[List.drop_eq_getElem_cons h];exact List.mem_cons_self ..
theorem um.left {l A B O:List Rec}{i j:Nat}(h:um l A B O i j)(hi:i<A.length)(hle:∀(hj:j<B.length),zR A[i] B[j]≤0):um l A B (O ++ [A[i]]) (i+1) j:=by
 obtain⟨n1,n2,n3⟩:=h.named
 have hs:=Kn (n2 _ (kR hi))
 have e:=List.drop_eq_getElem_cons hi
 have hp:=h.perm
 have hl:=h.low
 rw[e]at hp hl
 refine⟨?_,?_,?_,h.sa,h.sb,h.nm⟩
 ·rw[List.append_assoc]
  exact hp
 ·refine List.pairwise_append.2 ⟨h.so,List.pairwise_singleton ..,fun a ha b hb=>?_⟩
  rw[List.mem_singleton]at hb
  subst hb
  exact hl a ha _ (List.mem_append.2 (.inl (List.mem_cons_self ..)))
 ·intro o ho x hx
  rcases List.mem_append.1 ho with ho | ho
  ·exact hl o ho x (by
    rcases List.mem_append.1 hx with hx | hx
    ·exact List.mem_append.2 (.inl (List.mem_cons_of_mem _ hx))
    ·exact List.mem_append.2 (.inr hx))
  ·rw[List.mem_singleton]at ho
   subst ho
   rcases List.mem_append.1 hx with hx | hx
   ·exact Vx h.sa hi hs x (by rw[e];exact List.mem_cons_of_mem _ hx)
   ·have hj:j<B.length:=by
     rcases Nat.lt_or_ge j B.length with h' | h'
     ·exact h'
     ·rw[List.drop_of_length_le h']at hx;simp at hx
    have hb:=Vx h.sb hj (Kn (n3 _ (kR hj))) x hx
    exact ord_trans (n2 _ (kR hi)) (n3 _ (kR hj)) (n3 x hx) (hle hj) hb
theorem um.right {l A B O:List Rec}{i j:Nat}(h:um l A B O i j)(hj:j<B.length)(hle:∀(hi:i<A.length),zR B[j] A[i]≤0):um l A B (O ++ [B[j]]) i (j+1):=by
 obtain⟨n1,n2,n3⟩:=h.named
 have hs:=Kn (n3 _ (kR hj))
 have e:=List.drop_eq_getElem_cons hj
 have hp:=h.perm
 have hl:=h.low
 rw[e]at hp hl
 refine⟨?_,?_,?_,h.sa,h.sb,h.nm⟩
 ·rw[List.append_assoc]
  refine List.Perm.trans ?_ hp
  refine List.Perm.append_left O ?_
  rw[List.singleton_append]
  exact List.perm_middle.symm
 ·refine List.pairwise_append.2 ⟨h.so,List.pairwise_singleton ..,fun a ha b hb=>?_⟩
  rw[List.mem_singleton]at hb
  subst hb
  exact hl a ha _ (List.mem_append.2 (.inr (List.mem_cons_self ..)))
 ·intro o ho x hx
  rcases List.mem_append.1 ho with ho | ho
  ·exact hl o ho x (by
    rcases List.mem_append.1 hx with hx | hx
    ·exact List.mem_append.2 (.inl hx)
    ·exact List.mem_append.2 (.inr (List.mem_cons_of_mem _ hx)))
  ·rw[List.mem_singleton]at ho
   subst ho
   rcases List.mem_append.1 hx with hx | hx
   ·have hi:i<A.length:=by
     rcases Nat.lt_or_ge i A.length with h' | h'
     ·exact h'
     ·rw[List.drop_of_length_le h']at hx;simp at hx
    have ha:=Vx h.sa hi (Kn (n2 _ (kR hi))) x hx
    exact ord_trans (n3 _ (kR hj)) (n2 _ (kR hi)) (n2 x hx) (hle hi) ha
   ·exact Vx h.sb hj hs x (by rw[e];exact List.mem_cons_of_mem _ hx)
theorem um.done {l A B O:List Rec}{i j:Nat}(h:um l A B O i j)(hi:A.length≤i)(hj:B.length≤j):zI l O:=by
 have hp:=h.perm
 rw[List.drop_of_length_le hi,List.drop_of_length_le hj,List.append_nil,List.append_nil]at hp
 exact⟨hp,h.so⟩
theorem um.len {l A B O:List Rec}{i j:Nat}(h:um l A B O i j):O.length+(A.length-i)+(B.length-j)=l.length:=by
 have:=h.perm.length_eq
 simp at this
 omega
theorem J9 {l:List Rec}(h:l.length<2):zI l l:=⟨List.Perm.refl _,by
 match l,h with
 | [],_=>exact List.Pairwise.nil
 | [a],_=>exact List.pairwise_singleton ..⟩
end zn
theorem UJ {w:World}{b off n cap k:Nat}{l:List Rec}(h:qz w (.slice (some ⟨b,off,none⟩) n cap) l)(hk:k≤l.length):qz w (.slice (some ⟨b,off,none⟩) k cap) (l.take k):=by
 obtain⟨a,c,hv,hc,hr⟩:=h
 simp only[Value.slice.injEq]at hv
 obtain⟨rfl,rfl,rfl⟩:=hv
 refine⟨_,cap,by rw[List.length_take,Nat.min_eq_left hk],by rw[List.length_take];omega,fun j hj=>?_⟩
 rw[List.length_take]at hj
 rw[List.getElem_take]
 exact hr j (by omega)
theorem UK {w:World}{b off n cap k:Nat}{l:List Rec}(h:qz w (.slice (some ⟨b,off,none⟩) n cap) l)(hk:k≤l.length):qz w (.slice (some ⟨b,off+k*5,none⟩) (n-k) (cap-k)) (l.drop k):=by
 obtain⟨a,c,hv,hc,hr⟩:=h
 simp only[Value.slice.injEq]at hv
 obtain⟨rfl,rfl,rfl⟩:=hv
 refine⟨_,cap-k,by rw[List.length_drop],by rw[List.length_drop];omega,fun j hj=>?_⟩
 rw[List.length_drop]at hj
 rw[List.getElem_drop]
 obtain⟨b',off',he,hl,ha⟩:=hr (k+j) (by omega)
 simp only[Option.some.injEq,Addr.mk.injEq,and_true]at he
 obtain⟨rfl,rfl⟩:=he
 refine⟨b,off+k*5,rfl,hl,?_⟩
 rw[show off+k*5+j*5=off+(k+j)*5 by omega]
 exact ha
def Y9 (l:List Rec)(w:World)(e:Ending)(w':World):Prop:=∃v L,e= .returned v∧Below w.heap.size w w'∧zI l L∧w'.ownsRow w.heap.size 80 5 v L.length (qx L)
def Halves (l:List Rec)(k:Nat)(w:World)(av bv:Value)(W:World):Prop:=
 ∃ga ca A gb cb B,av= .slice (some ⟨ga,0,none⟩) A.length ca∧bv= .slice (some ⟨gb,0,none⟩) B.length cb∧qz W av A∧qz W bv B∧zI (l.take k) A∧zI (l.drop k) B∧Below w.heap.size w W
theorem XG {l A:List Rec}{w w':World}{v:Value}(hs:zI l A)(hl:0<l.length)(hv:w'.ownsRow w.heap.size 80 5 v A.length (qx A)):∃g c,v= .slice (some ⟨g,0,none⟩) A.length c:=by
 have hn:=hs.1.length_eq
 obtain⟨g,c,hv',_⟩:=hv.form (by omega)
 exact⟨g,c,hv'⟩
theorem rsorted_step (l:List Rec)(hl:l.length≤1000000)(hn:zn.jy l)(b off cap:Nat)(h2:2≤l.length)(w:World)(hrv:qz w (.slice (some ⟨b,off,none⟩) l.length cap) l)
 (ih:∀(l':List Rec),l'.length<l.length→zn.jy l'→∀(v:Value) (w:World),zZ v→qz w v l'→Calls Tryz.prog 83 #[v] w fun e w'=>Y9 l' w e w'):
 Calls Tryz.prog 83 #[.slice (some ⟨b,off,none⟩) l.length cap] w fun e w'=>Y9 l w e w':=by
 obtain⟨n,hnl⟩:∃n,n=l.length:=⟨_,rfl⟩
 have hcap:l.length≤cap:=by
  obtain⟨a,c,hv,hc,_⟩:=hrv
  simp only[Value.slice.injEq]at hv
  omega
 have hA:∀X,Below w.heap.size w X→Calls Tryz.prog 83 #[.slice (some ⟨b,off,none⟩) (n / 2) cap] X fun e w'=>Y9 (l.take (n / 2)) X e w':=fun X hX=>
  ih _ (by rw[List.length_take];omega) (fun r hr=>hn r (List.mem_of_mem_take hr)) _ X (.inr ⟨_,_,_,_,rfl⟩) (UJ (hrv.below hX) (by omega))
 have hBq:∀X,Below w.heap.size w X→Calls Tryz.prog 83 #[.slice (some ⟨b,off+n / 2*5,none⟩) (n-n / 2) (cap-n / 2)] X fun e w'=>Y9 (l.drop (n / 2)) X e w':=fun X hX=>
  ih _ (by rw[List.length_drop];omega) (fun r hr=>hn r (List.mem_of_mem_drop hr)) _ X (.inr ⟨_,_,_,_,rfl⟩) (by have:=UK (k:=n / 2) (hrv.below hX) (by omega);rw[hnl];rw[hnl]at this;exact this)
 have hlen2:((n:Int) / 2)=((n / 2:Nat):Int):=by omega
 have hq1:n / 2≤cap:=by omega
 have hq2:¬cap=n / 2:=by omega
 have hq3:n / 2≤n:=by omega
 have hq4:n≤cap:=by omega
 have h2n:2≤n:=by omega
 have hln:n≤1000000:=by omega
 have hs0:(0:Int)≤(n:Int) / 2:=by omega
 have hs1:(n:Int) / 2≤(cap:Int):=by omega
 have hs2:(n:Int) / 2≤(n:Int):=by omega
 have hs3:((n:Int) / 2).toNat=n / 2:=by omega
 have hs4:(n:Int)≤(cap:Int):=by omega
 have hs5:IntKind.i64.wrap ((n:Int) / 2)=(n:Int) / 2:=IntWalk.i64_in _ (by omega)
 have hsA:(l.take (n / 2)).length=n / 2:=by rw[List.length_take];omega
 have hsB:(l.drop (n / 2)).length=n-n / 2:=by rw[List.length_drop];omega
 rw[← hnl]
 obtain⟨i0_r,hi_r,hz_r,UW,Xv⟩:=info_parts uY
 have HI_r:=Lib.hid hi_r;have HZ_r:=Lib.hid hz_r;have HZ1_r:=Lib.hid UW;have HZ2_r:=Lib.hid Xv
 clear hi_r hz_r UW Xv
 have HA:=Lib.hid hA;have HBQ:=Lib.hid hBq;have HNL:=Lib.hid hnl;have HN:=Lib.hid hn;have HRV:=Lib.hid hrv;have IH:=Lib.hid ih;have HLEN2:=Lib.hid hlen2;have HSA:=Lib.hid hsA;have HSB:=Lib.hid hsB
 clear hA hBq hnl hn hrv ih hlen2 hsA hsB
 clear h2 hl hcap
 go_enter Tryz.func83,Tryz.ntmps83
 go_wp2_with fail
 go_upto_region 3 with fail
 go_cut [3,4] (fun av bv W=>Halves l (n / 2) w av bv W)
 case first=>
  go_region_held3 (fun X=>Below w.heap.size w X)
   (first | assumption | exact(Below.refl _ _).drew)
   (first
    | (go_at_call 83;(with_reducible refine(HA.out _ (by assumption)).mono ?_);rintro e wA ⟨vA,LA,rfl,hbA,hsA,hoA⟩;have JN:=Below.trans (B:=w.heap.size) (a:=w) (by assumption) (hbA.mono (Below.size (by assumption))))
    | (go_at_call 83;(with_reducible refine(HBQ.out _ (by assumption)).mono ?_);rintro e wB ⟨vB,LB,rfl,hbB,hsB,hoB⟩;have hbB2:=Below.trans (B:=w.heap.size) (a:=w) (by assumption) (hbB.mono (Below.size (by assumption)))))
  all_goals
   obtain⟨ga,ca,rfl⟩:=XG hsA (by rw[HSA.out];omega) hoA
   obtain⟨gb,cb,rfl⟩:=XG hsB (by rw[HSB.out];omega) hoB
   go_wp2_with fail
   go_meet
   first
    | exact⟨ga,ca,LA,gb,cb,LB,rfl,rfl,(qH hoA).below hbB,qH hoB,hsA,hsB,hbB2⟩
    | exact⟨ga,ca,LA,gb,cb,LB,rfl,rfl,qH hoA,(qH hoB).below hbA,hsA,hsB,JN⟩
 case rest=>
  obtain⟨ga,ca,A,gb,cb,B,rfl,rfl,hra,hrb,hsa,hsb,hbc⟩:=hcut
  have hM:=zn.um.start hsa hsb HN.out
  obtain⟨_,_,va,hca,cellA⟩:=hra
  obtain⟨_,_,vb,hcb,cellB⟩:=hrb
  simp only[Value.slice.injEq]at va vb
  obtain⟨rfl,_,rfl⟩:=va
  obtain⟨rfl,_,rfl⟩:=vb
  have hAl:A.length≤1000000:=by rw[hsa.1.length_eq,HSA.out];omega
  have hBl:B.length≤1000000:=by rw[hsb.1.length_eq,HSB.out];omega
  have hcs:=hbc.size
  have HM:=Lib.hid hM;have CELLA:=Lib.hid cellA;have CELLB:=Lib.hid cellB;have HBC:=Lib.hid hbc;have HSA:=Lib.hid hsa;have HSB:=Lib.hid hsb
  clear hM cellA cellB hbc hsa hsb
  clear hs0 hs1 hs2 hs3 hs4 hs5 hq1 hq2 hq3 hq4
  go_wp2_with fail
  go_loopw [3,4,5] (fun av bv ov wr=>∃(i j oa ob na nb ka kb:Nat) (O:List Rec),i+na=A.length∧j+nb=B.length∧(0<na→oa=i*5)∧(0<nb→ob=j*5)∧na≤ka∧nb≤kb∧
   av= .slice (some ⟨ga,oa,none⟩) na ka∧bv= .slice (some ⟨gb,ob,none⟩) nb kb∧zn.um l A B O i j∧wr.ownsRow wc.heap.size 80 5 ov O.length (qx O)∧Below wc.heap.size wc wr) (fun av bv _ _=>Vd av+Vd bv)
  case atStart=>exact⟨0,0,0,0,A.length,B.length,_,_,[],by omega,by omega,(fun _=>rfl),(fun _=>rfl),hca,hcb,rfl,rfl,HM.out,World.ownsRow_nil _ _ _ _,Below.refl _ _⟩
  case round=>
   obtain⟨i,j,oa,ob,na,nb,ka,kb,O,hi,hj,ho1,ho2,hka,hkb,rfl,rfl,hm,hown,hB⟩:=hrel
   obtain⟨ao,co,rfl,_⟩:=qm hown
   have hOl:=hm.len
   have HNL':=HNL.out
   have hO1:O.length≤1000000:=by omega
   have hsr:=hB.size
   clear HNL'
   have HI:=Lib.hid hi;have HJ:=Lib.hid hj;have HO1:=Lib.hid ho1;have HO2:=Lib.hid ho2;have HMI:=Lib.hid hm;have HOWN:=Lib.hid hown;have HB:=Lib.hid hB
   clear hi hj ho1 ho2 hm hown hB hOl
   by_cases hna:na=0
   ·subst hna
    by_cases hnb:nb=0
    ·subst hnb
     have HD:=Lib.hid (HMI.out.done (by have:=HI.out;omega) (by have:=HJ.out;omega))
     have HBE:=Lib.hid (HBC.out.trans (HB.out.mono hcs))
     go_wp2_with fail
     go_ret
     exact⟨_,O,rfl,HBE.out,HD.out,qK HOWN.out hcs⟩
    ·have hb0:0<nb:=by omega
     have hb1:(0:Int)<(nb:Int):=by omega
     have hb2:((nb:Int) == 0)=false:=by rw[beq_eq_false_iff_ne];omega
     have hjl:j<B.length:=by have:=HJ.out;omega
     have HM2:=Lib.hid (HMI.out.right hjl (fun h=>by have:=HI.out;omega))
     clear hnb
     obtain rfl:ob=j*5:=HO2.out hb0
     go_wp2_with fail
     refine ql (by kernel_rfl) (by kernel_rfl) ?_
     repeat (with_reducible refine wpQuiet_step (fun K hK=>?_);go_simp;(try simp only[undef]);first | (with_reducible refine hK _ ?_;clear hK K))
     refine wpQuiet_nil ?_
     (try simp only[show Value.tuple #[]=undef from rfl])
     intro W hW
     have hBW:Below wr.heap.size wr W:=by obtain⟨g,rfl⟩:=hW;exact qC _ g
     clear hW
     have HBW:=Lib.hid (HB.out.trans (hBW.mono hsr))
     have YQ:=Lib.hid (ownsRow_below HOWN.out hBW)
     clear hBW
     have hX:j<B.length:=by omega
     obtain⟨_,_,he,hgl,rx⟩:=CELLB.out j hX
     simp only[Option.some.injEq,Addr.mk.injEq,and_true]at he
     obtain⟨rfl,rfl⟩:=he
     rw[Nat.zero_add]at rx
     obtain⟨c0,c1,c2,c3,c4⟩:=rx.keep (HBW.out.block _ hgl)
     have YR:=Lib.hid (HBW.out.alloc HBW.out.size (.cells (recC B[j]).toArray 80))
     have QC:=Lib.hid (qi YQ.out fun b hb=>Below.heap_alloc W (.cells (recC B[j]).toArray 80) b (YQ.out.lt b hb).2)
     have YO:=Lib.hid (show O.length+1≤maxLen from by unfold maxLen;omega)
     have YN:=Lib.hid (show(O.length+1)*56≤140737488355328 from by omega)
     have QB:=Lib.hid (show wc.heap.size≤(W.alloc (.cells (recC B[j]).toArray 80)).heap.size from by have:=HBW.out.size;simp;omega)
     have QD:=Lib.hid (ZM W (recC B[j]) 80)
     go_wp2_with (at_builtin;refine zo _ rfl _ _ 31 rfl wc.heap.size 80 i0_r (.agg #[.string ⟨#[]⟩,.int .i64 0,.int .i64 0,.int .i64 0,.string ⟨#[]⟩]) 5 56 Tryz.underlying31 HI_r.out HZ_r.out HZ1_r.out HZ2_r.out rfl (by decide) _ _ _ rfl QC.out ⟨W.heap.size,0,none⟩ 1 1 (recC B[j]) rfl rfl QD.out (by simp[Value.oneCell']) YO.out YN.out QB.out ?_)
     intro v' w10 yB jT uZ
     have jg:=Lib.hid (YR.out.grown jT QB.out (fun j hj=>(QC.out.lt j hj).1))
     have yC:=Lib.hid yB;have JX:=Lib.hid jT;have QR:=Lib.hid uZ
     clear yB jT uZ YR QC YO YN QB QD
     clear c0 c1 c2 c3 c4
     by_cases hk1:kb=1
     ·obtain rfl:nb=1:=by omega
      obtain rfl:kb=1:=hk1
      go_wp2_with fail
      go_roundw
      case rel=>
       refine⟨i,(j+1),_,_,_,_,_,_,O ++ [B[j]],?_,?_,?_,?_,?_,?_,rfl,rfl,HM2.out,?_,jg.out⟩
       rotate_left 6
       ·have h:=yC.out
        rw[List.length_append,kW]
        exact h
       all_goals
        have hi:=HI.out
        have hj:=HJ.out
        have hp1:=HO1.out
        have hp2:=HO2.out
        clear jg yC JX QR
        omega
      case measure=>simp[Vd]
     ·go_wp2_with fail
      go_roundw
      case rel=>
       refine⟨i,(j+1),_,_,_,_,_,_,O ++ [B[j]],?_,?_,?_,?_,?_,?_,rfl,rfl,HM2.out,?_,jg.out⟩
       rotate_left 6
       ·have h:=yC.out
        rw[List.length_append,kW]
        exact h
       all_goals
        have hi:=HI.out
        have hj:=HJ.out
        have hp1:=HO1.out
        have hp2:=HO2.out
        clear jg yC JX QR
        omega
      case measure=>simp[Vd];omega
   ·have ha0:0<na:=by omega
    have ha1:(0:Int)<(na:Int):=by omega
    have ha2:((na:Int) == 0)=false:=by rw[beq_eq_false_iff_ne];omega
    have hil:i<A.length:=by have:=HI.out;omega
    clear hna
    by_cases hnb:nb=0
    ·subst hnb
     have HM2:=Lib.hid (HMI.out.left hil (fun h=>by have:=HJ.out;omega))
     obtain rfl:oa=i*5:=HO1.out ha0
     go_wp2_with fail
     refine ql (by kernel_rfl) (by kernel_rfl) ?_
     repeat (with_reducible refine wpQuiet_step (fun K hK=>?_);go_simp;(try simp only[undef]);first | (with_reducible refine hK _ ?_;clear hK K))
     refine wpQuiet_nil ?_
     (try simp only[show Value.tuple #[]=undef from rfl])
     intro W hW
     have hBW:Below wr.heap.size wr W:=by obtain⟨g,rfl⟩:=hW;exact qC _ g
     clear hW
     have HBW:=Lib.hid (HB.out.trans (hBW.mono hsr))
     have YQ:=Lib.hid (ownsRow_below HOWN.out hBW)
     clear hBW
     have hX:i<A.length:=by omega
     obtain⟨_,_,he,hgl,rx⟩:=CELLA.out i hX
     simp only[Option.some.injEq,Addr.mk.injEq,and_true]at he
     obtain⟨rfl,rfl⟩:=he
     rw[Nat.zero_add]at rx
     obtain⟨c0,c1,c2,c3,c4⟩:=rx.keep (HBW.out.block _ hgl)
     have YR:=Lib.hid (HBW.out.alloc HBW.out.size (.cells (recC A[i]).toArray 80))
     have QC:=Lib.hid (qi YQ.out fun b hb=>Below.heap_alloc W (.cells (recC A[i]).toArray 80) b (YQ.out.lt b hb).2)
     have YO:=Lib.hid (show O.length+1≤maxLen from by unfold maxLen;omega)
     have YN:=Lib.hid (show(O.length+1)*56≤140737488355328 from by omega)
     have QB:=Lib.hid (show wc.heap.size≤(W.alloc (.cells (recC A[i]).toArray 80)).heap.size from by have:=HBW.out.size;simp;omega)
     have QD:=Lib.hid (ZM W (recC A[i]) 80)
     go_wp2_with (at_builtin;refine zo _ rfl _ _ 31 rfl wc.heap.size 80 i0_r (.agg #[.string ⟨#[]⟩,.int .i64 0,.int .i64 0,.int .i64 0,.string ⟨#[]⟩]) 5 56 Tryz.underlying31 HI_r.out HZ_r.out HZ1_r.out HZ2_r.out rfl (by decide) _ _ _ rfl QC.out ⟨W.heap.size,0,none⟩ 1 1 (recC A[i]) rfl rfl QD.out (by simp[Value.oneCell']) YO.out YN.out QB.out ?_)
     intro v' w10 yB jT uZ
     have jg:=Lib.hid (YR.out.grown jT QB.out (fun j hj=>(QC.out.lt j hj).1))
     have yC:=Lib.hid yB;have JX:=Lib.hid jT;have QR:=Lib.hid uZ
     clear yB jT uZ YR QC YO YN QB QD
     clear c0 c1 c2 c3 c4
     by_cases hk1:ka=1
     ·obtain rfl:na=1:=by omega
      obtain rfl:ka=1:=hk1
      go_wp2_with fail
      go_roundw
      case rel=>
       refine⟨(i+1),j,_,_,_,_,_,_,O ++ [A[i]],?_,?_,?_,?_,?_,?_,rfl,rfl,HM2.out,?_,jg.out⟩
       rotate_left 6
       ·have h:=yC.out
        rw[List.length_append,kW]
        exact h
       all_goals
        have hi:=HI.out
        have hj:=HJ.out
        have hp1:=HO1.out
        have hp2:=HO2.out
        clear jg yC JX QR
        omega
      case measure=>simp[Vd]
     ·go_wp2_with fail
      go_roundw
      case rel=>
       refine⟨(i+1),j,_,_,_,_,_,_,O ++ [A[i]],?_,?_,?_,?_,?_,?_,rfl,rfl,HM2.out,?_,jg.out⟩
       rotate_left 6
       ·have h:=yC.out
        rw[List.length_append,kW]
        exact h
       all_goals
        have hi:=HI.out
        have hj:=HJ.out
        have hp1:=HO1.out
        have hp2:=HO2.out
        clear jg yC JX QR
        omega
      case measure=>simp[Vd];omega
    ·have hb0:0<nb:=by omega
     have hb1:(0:Int)<(nb:Int):=by omega
     have hb2:((nb:Int) == 0)=false:=by rw[beq_eq_false_iff_ne];omega
     have hjl:j<B.length:=by have:=HJ.out;omega
     clear hnb
     obtain rfl:oa=i*5:=HO1.out ha0
     obtain rfl:ob=j*5:=HO2.out hb0
     have nmA:qj A[i].owner=true:=(HMI.out.named).2.1 _ (zn.kR hil)
     have nmB:qj B[j].owner=true:=(HMI.out.named).2.2 _ (zn.kR hjl)
     have szA:=qQ nmA
     have szB:=qQ nmB
     obtain⟨_,_,he,hgal,ra⟩:=CELLA.out i hil
     simp only[Option.some.injEq,Addr.mk.injEq,and_true]at he
     obtain⟨rfl,rfl⟩:=he
     rw[Nat.zero_add]at ra
     obtain⟨_,_,he,hgbl,rb⟩:=CELLB.out j hjl
     simp only[Option.some.injEq,Addr.mk.injEq,and_true]at he
     obtain⟨rfl,rfl⟩:=he
     rw[Nat.zero_add]at rb
     have ra:=ra.keep (HB.out.block _ hgal)
     have rb:=rb.keep (HB.out.block _ hgbl)
     obtain⟨x0,x1,x2,x3,x4⟩:=ra
     obtain⟨y0,y1,y2,y3,y4⟩:=rb
     have e0:=qh x0
     have e1:=qh x1
     have e2:=qh x2
     have e3:=qh x3
     have e4:=qh x4
     have f0:=qh y0
     have f1:=qh y1
     have f2:=qh y2
     have f3:=qh y3
     have f4:=qh y4
     cases hd:decide (zn.zR B[j] A[i]<0)
     ·have CP:Hid (∀g,Calls Tryz.prog 134 #[yA B[j],yA A[i]] (gw wr g) fun e w''=>e= .returned (.bool false)∧∃g',w''=gw wr g'):=Lib.hid fun g=>qU (by rw[← hd];exact UL _ _ (by omega) (by omega) _)
      have HM2:=Lib.hid (HMI.out.left hil (fun h=>(zn.ord_le nmA nmB).2 (by rw[decide_eq_false_iff_not]at hd;omega)))
      clear hd x0 x1 x2 x3 x4 y0 y1 y2 y3 y4 nmA nmB
      go_wp2_with fail
      refine ql (by kernel_rfl) (by kernel_rfl) ?_
      repeat (with_reducible refine wpQuiet_step (fun K hK=>?_);go_simp;(try simp only[undef]);first | (with_reducible refine hK _ ?_;clear hK K) | (apply Exists.intro;refine⟨fun _=>?_,hK _ ?_⟩;(first | (go_at_call 134;with_reducible exact CP.out _));clear hK K) | (with_reducible refine⟨fun _ h=>(by cases h),?_⟩;with_reducible refine hK _ ?_;clear hK K))
      refine wpQuiet_nil ?_
      (try simp only[show Value.tuple #[]=undef from rfl])
      intro W hW
      have hBW:Below wr.heap.size wr W:=by obtain⟨g,rfl⟩:=hW;exact qC _ g
      clear hW
      clear e0 e1 e2 e3 e4 f0 f1 f2 f3 f4
      have HBW:=Lib.hid (HB.out.trans (hBW.mono hsr))
      have YQ:=Lib.hid (ownsRow_below HOWN.out hBW)
      clear hBW
      have hX:i<A.length:=by omega
      obtain⟨_,_,he,hgl,rx⟩:=CELLA.out i hX
      simp only[Option.some.injEq,Addr.mk.injEq,and_true]at he
      obtain⟨rfl,rfl⟩:=he
      rw[Nat.zero_add]at rx
      obtain⟨c0,c1,c2,c3,c4⟩:=rx.keep (HBW.out.block _ hgl)
      have YR:=Lib.hid (HBW.out.alloc HBW.out.size (.cells (recC A[i]).toArray 80))
      have QC:=Lib.hid (qi YQ.out fun b hb=>Below.heap_alloc W (.cells (recC A[i]).toArray 80) b (YQ.out.lt b hb).2)
      have YO:=Lib.hid (show O.length+1≤maxLen from by unfold maxLen;omega)
      have YN:=Lib.hid (show(O.length+1)*56≤140737488355328 from by omega)
      have QB:=Lib.hid (show wc.heap.size≤(W.alloc (.cells (recC A[i]).toArray 80)).heap.size from by have:=HBW.out.size;simp;omega)
      have QD:=Lib.hid (ZM W (recC A[i]) 80)
      go_wp2_with (at_builtin;refine zo _ rfl _ _ 31 rfl wc.heap.size 80 i0_r (.agg #[.string ⟨#[]⟩,.int .i64 0,.int .i64 0,.int .i64 0,.string ⟨#[]⟩]) 5 56 Tryz.underlying31 HI_r.out HZ_r.out HZ1_r.out HZ2_r.out rfl (by decide) _ _ _ rfl QC.out ⟨W.heap.size,0,none⟩ 1 1 (recC A[i]) rfl rfl QD.out (by simp[Value.oneCell']) YO.out YN.out QB.out ?_)
      intro v' w10 yB jT uZ
      have jg:=Lib.hid (YR.out.grown jT QB.out (fun j hj=>(QC.out.lt j hj).1))
      have yC:=Lib.hid yB;have JX:=Lib.hid jT;have QR:=Lib.hid uZ
      clear yB jT uZ YR QC YO YN QB QD
      clear c0 c1 c2 c3 c4
      by_cases hk1:ka=1
      ·obtain rfl:na=1:=by omega
       obtain rfl:ka=1:=hk1
       go_wp2_with fail
       go_roundw
       case rel=>
        refine⟨(i+1),j,_,_,_,_,_,_,O ++ [A[i]],?_,?_,?_,?_,?_,?_,rfl,rfl,HM2.out,?_,jg.out⟩
        rotate_left 6
        ·have h:=yC.out
         rw[List.length_append,kW]
         exact h
        all_goals
         have hi:=HI.out
         have hj:=HJ.out
         have hp1:=HO1.out
         have hp2:=HO2.out
         clear jg yC JX QR
         omega
       case measure=>simp[Vd]
      ·go_wp2_with fail
       go_roundw
       case rel=>
        refine⟨(i+1),j,_,_,_,_,_,_,O ++ [A[i]],?_,?_,?_,?_,?_,?_,rfl,rfl,HM2.out,?_,jg.out⟩
        rotate_left 6
        ·have h:=yC.out
         rw[List.length_append,kW]
         exact h
        all_goals
         have hi:=HI.out
         have hj:=HJ.out
         have hp1:=HO1.out
         have hp2:=HO2.out
         clear jg yC JX QR
         omega
       case measure=>simp[Vd];omega
     ·have CP:Hid (∀g,Calls Tryz.prog 134 #[yA B[j],yA A[i]] (gw wr g) fun e w''=>e= .returned (.bool true)∧∃g',w''=gw wr g'):=Lib.hid fun g=>qU (by rw[← hd];exact UL _ _ (by omega) (by omega) _)
      have HM2:=Lib.hid (HMI.out.right hjl (fun h=>by rw[decide_eq_true_iff]at hd;omega))
      clear hd x0 x1 x2 x3 x4 y0 y1 y2 y3 y4 nmA nmB
      go_wp2_with fail
      refine ql (by kernel_rfl) (by kernel_rfl) ?_
      repeat (with_reducible refine wpQuiet_step (fun K hK=>?_);go_simp;(try simp only[undef]);first | (with_reducible refine hK _ ?_;clear hK K) | (apply Exists.intro;refine⟨fun _=>?_,hK _ ?_⟩;(first | (go_at_call 134;with_reducible exact CP.out _));clear hK K) | (with_reducible refine⟨fun _ h=>(by cases h),?_⟩;with_reducible refine hK _ ?_;clear hK K))
      refine wpQuiet_nil ?_
      (try simp only[show Value.tuple #[]=undef from rfl])
      intro W hW
      have hBW:Below wr.heap.size wr W:=by obtain⟨g,rfl⟩:=hW;exact qC _ g
      clear hW
      clear e0 e1 e2 e3 e4 f0 f1 f2 f3 f4
      have HBW:=Lib.hid (HB.out.trans (hBW.mono hsr))
      have YQ:=Lib.hid (ownsRow_below HOWN.out hBW)
      clear hBW
      have hX:j<B.length:=by omega
      obtain⟨_,_,he,hgl,rx⟩:=CELLB.out j hX
      simp only[Option.some.injEq,Addr.mk.injEq,and_true]at he
      obtain⟨rfl,rfl⟩:=he
      rw[Nat.zero_add]at rx
      obtain⟨c0,c1,c2,c3,c4⟩:=rx.keep (HBW.out.block _ hgl)
      have YR:=Lib.hid (HBW.out.alloc HBW.out.size (.cells (recC B[j]).toArray 80))
      have QC:=Lib.hid (qi YQ.out fun b hb=>Below.heap_alloc W (.cells (recC B[j]).toArray 80) b (YQ.out.lt b hb).2)
      have YO:=Lib.hid (show O.length+1≤maxLen from by unfold maxLen;omega)
      have YN:=Lib.hid (show(O.length+1)*56≤140737488355328 from by omega)
      have QB:=Lib.hid (show wc.heap.size≤(W.alloc (.cells (recC B[j]).toArray 80)).heap.size from by have:=HBW.out.size;simp;omega)
      have QD:=Lib.hid (ZM W (recC B[j]) 80)
      go_wp2_with (at_builtin;refine zo _ rfl _ _ 31 rfl wc.heap.size 80 i0_r (.agg #[.string ⟨#[]⟩,.int .i64 0,.int .i64 0,.int .i64 0,.string ⟨#[]⟩]) 5 56 Tryz.underlying31 HI_r.out HZ_r.out HZ1_r.out HZ2_r.out rfl (by decide) _ _ _ rfl QC.out ⟨W.heap.size,0,none⟩ 1 1 (recC B[j]) rfl rfl QD.out (by simp[Value.oneCell']) YO.out YN.out QB.out ?_)
      intro v' w10 yB jT uZ
      have jg:=Lib.hid (YR.out.grown jT QB.out (fun j hj=>(QC.out.lt j hj).1))
      have yC:=Lib.hid yB;have JX:=Lib.hid jT;have QR:=Lib.hid uZ
      clear yB jT uZ YR QC YO YN QB QD
      clear c0 c1 c2 c3 c4
      by_cases hk1:kb=1
      ·obtain rfl:nb=1:=by omega
       obtain rfl:kb=1:=hk1
       go_wp2_with fail
       go_roundw
       case rel=>
        refine⟨i,(j+1),_,_,_,_,_,_,O ++ [B[j]],?_,?_,?_,?_,?_,?_,rfl,rfl,HM2.out,?_,jg.out⟩
        rotate_left 6
        ·have h:=yC.out
         rw[List.length_append,kW]
         exact h
        all_goals
         have hi:=HI.out
         have hj:=HJ.out
         have hp1:=HO1.out
         have hp2:=HO2.out
         clear jg yC JX QR
         omega
       case measure=>simp[Vd]
      ·go_wp2_with fail
       go_roundw
       case rel=>
        refine⟨i,(j+1),_,_,_,_,_,_,O ++ [B[j]],?_,?_,?_,?_,?_,?_,rfl,rfl,HM2.out,?_,jg.out⟩
        rotate_left 6
        ·have h:=yC.out
         rw[List.length_append,kW]
         exact h
        all_goals
         have hi:=HI.out
         have hj:=HJ.out
         have hp1:=HO1.out
         have hp2:=HO2.out
         clear jg yC JX QR
         omega
       case measure=>simp[Vd];omega
theorem Jj (l:List Rec)(hl:l.length<2)(v:Value)(hf:zZ v)(w:World)(hrv:qz w v l):
 Calls Tryz.prog 83 #[v] w fun e w'=>Y9 l w e w':=by
 rcases hf with rfl | ⟨b,off,n,cap,rfl⟩
 ·have h0:l= []:=by
   obtain⟨a,c,hv,_⟩:=hrv
   simp only[Value.slice.injEq]at hv
   exact List.eq_nil_of_length_eq_zero hv.2.1.symm
  subst h0
  go_enter Tryz.func83,Tryz.ntmps83
  go_wp2_with fail
  go_ret
  exact⟨_,[],rfl,Below.refl _ _,zn.J9 (by decide),World.ownsRow_nil _ _ _ _⟩
 ·obtain⟨hn,hcell⟩:=ZK hrv
  subst hn
  have hone:∀u∈qx l,u.oneCell'=true:=fun u hu=>by
   unfold qx at hu
   obtain⟨r,_,hr⟩:=List.mem_flatMap.1 hu
   simp only[List.mem_cons,List.not_mem_nil,or_false]at hr
   rcases hr with rfl | rfl | rfl | rfl | rfl <;> rfl
  have hln:=zK l
  have hl':(l.length:Int)<2:=by omega
  have hnl:World.ownsRow w w.heap.size 80 5 (.slice none 0 0) 0 []:=World.ownsRow_nil _ _ _ _
  have hnews:∀j u,(qx l)[j]? =some u→w.cell? ((⟨b,off,none⟩:Addr).add j)=some u:=fun j u hu=>by rw[Addr.add_lit];exact hcell j u hu
  have p1:0+l.length≤maxLen:=by unfold maxLen;omega
  have p2:(0+l.length)*56≤140737488355328:=by omega
  have hlt:=Lib.hid hl
  obtain⟨i0_r,hi_r,hz_r,UW,Xv⟩:=info_parts uY
  have HI_r:=Lib.hid hi_r;have HZ_r:=Lib.hid hz_r;have HZ1_r:=Lib.hid UW;have HZ2_r:=Lib.hid Xv
  clear hi_r hz_r UW Xv
  have HONE:=Lib.hid hone;have HLN:=Lib.hid hln;have HNL:=Lib.hid hnl;have HNEWS:=Lib.hid hnews;have P1:=Lib.hid p1;have P2:=Lib.hid p2;have HCELL:=Lib.hid hcell
  clear hone hln hnl hnews p1 p2 hcell
  clear hl
  go_enter Tryz.func83,Tryz.ntmps83
  go_wp2_with (at_builtin;refine zo _ rfl _ _ 31 rfl w.heap.size 80 i0_r (.agg #[.string ⟨#[]⟩,.int .i64 0,.int .i64 0,.int .i64 0,.string ⟨#[]⟩]) 5 56 Tryz.underlying31 HI_r.out HZ_r.out HZ1_r.out HZ2_r.out rfl (by decide) _ _ _ rfl HNL.out ⟨b,off,none⟩ l.length cap (qx l) rfl HLN.out HNEWS.out HONE.out P1.out P2.out (Nat.le_refl _) ?_)
  intro v' w10 yB jT uZ
  have jg:=Lib.hid ((Below.refl w.heap.size w).grown jT (Nat.le_refl _) (fun j hj=>by cases hj))
  have yC:=Lib.hid yB
  clear yB
  clear jT uZ
  go_wp2_with fail
  go_ret
  refine⟨_,l,rfl,jg.out,zn.J9 hlt.out,?_⟩
  have h:=yC.out
  exact h
theorem rsorted_any:∀(n:Nat) (l:List Rec),l.length≤n→n≤1000000→zn.jy l→∀(v:Value) (w:World),zZ v→qz w v l→Calls Tryz.prog 83 #[v] w fun e w'=>Y9 l w e w':=by
 intro n
 induction n with
 | zero=>intro l hl hn hnm v w hf hrv;exact Jj l (by omega) v hf w hrv
 | succ n ih=>
   intro l hl hn hnm v w hf hrv
   by_cases h2:l.length<2
   ·exact Jj l h2 v hf w hrv
   ·rcases hf with rfl | ⟨b,off,m,cap,rfl⟩
    ·obtain⟨a,c,hv,_⟩:=hrv
     simp only[Value.slice.injEq]at hv
     omega
    ·obtain⟨hm,_⟩:=ZK hrv
     subst hm
     exact rsorted_step l (by omega) hnm b off cap (by omega) w hrv (fun l' hl' hn' v' w' hf' hr'=>ih l' (by omega) (by omega) hn' v' w' hf' hr')
end Go.Proofs.YtpcmilhjpmlbpaaGreatDoor
