import Derived.Test.YtpcmilhjpmlbpaaGreatDoorQTrT
import Derived.Stop.RegionWithIn
import Derived.RegionIn
set_option maxRecDepth 100000
set_option maxHeartbeats 2000000
namespace Go.Proofs.YtpcmilhjpmlbpaaGreatDoor
open Go.RowKit Go.Shelf nm od
attribute [local go_sem] Oper.semAt_some
theorem ug {W W':World}(h:Below W.heap.size W W'):KeepsOthers W W':=⟨h.size,fun k _ hk _=>(h.block k (qA hk)).trans hk⟩
theorem ZQ {l n:Nat}{P:Program}{f:FuncId}{args:Array Value}{w:World}{R:Ending→World→Prop}(h:Calls P f args w R):CallsIn (Fence.wide.inRound l) n P f args w R:=(callsIn_wide (n:=n)).2 h
namespace tr
def bk (n k:Nat):List Nat:=(List.range' k (n-k)).reverse
theorem bk_full (n:Nat):bk n n= []:=by unfold bk;simp
theorem XM {n k:Nat}(h:k<n):bk n k=bk n (k+1) ++ [k]:=by
 unfold bk;rw[show n-k=(n-(k+1))+1 by omega,List.range'_succ,List.reverse_cons]
theorem bk_len (n k:Nat):(bk n k).length=n-k:=by unfold bk;simp
theorem mem_bk {n k x:Nat}:x∈bk n k↔k≤x∧x<n:=by
 unfold bk;rw[List.mem_reverse,List.mem_range'_1];omega
theorem bk_pre (n:Nat):∀j k,k+j=n→bk n k <+:bk n 0
 | j,0,_=>List.prefix_refl _
 | j,k+1,h=>by
   refine List.IsPrefix.trans ?_ (bk_pre n (j+1) k (by omega));rw[XM (show k<n by omega)];exact List.prefix_append _ _
theorem range_pre {k n:Nat}(h:k≤n):List.range k <+:List.range n:=by
 obtain⟨d,rfl⟩:∃d,n=k+d:=⟨n-k,by omega⟩;rw[List.range_add];exact List.prefix_append _ _
theorem bk_last {n x:Nat}{P:List Nat}(h:P ++ [x] <+:bk n 0):P=bk n (x+1)∧x<n:=by
 have hl:=h.length_le;rw[List.length_append,List.length_singleton,bk_len]at hl;have h2:=bk_pre n (P.length+1) (n-(P.length+1)) (by omega);have h3:P ++ [x]=bk n (n-(P.length+1)):=(List.prefix_of_prefix_length_le h h2 (by rw[bk_len];simp;omega)).eq_of_length (by rw[bk_len];simp;omega);rw[XM (by omega)]at h3;obtain⟨h4,h5⟩:=List.append_inj' h3 rfl;have h6:x=n-(P.length+1):=by simpa using h5
 refine⟨?_,by omega⟩;rw[h6];exact h4
end tr
theorem back_any (ao:Option Addr)(m cap:Nat)(w:World):
 Calls Tryz.prog 69 #[.slice ao m cap] w fun e w'=>e= .returned (.func (.func 105) #[] #[.pointer (some ⟨w.heap.size,0,none⟩)])∧w'=w.alloc (.cells #[.slice ao m cap] 118):=by
 refine(callsIn_wide (n:=3)).1 ?_;refine callsIn_of_wp Tryz.func69 rfl trivial ?_ rfl;simp only[Tryz.ntmps69,List.size_toArray,List.length_cons,List.length_nil,Nat.reduceAdd,Nat.reduceSub,Array.replicate_succ,Array.replicate_zero,List.push_toArray,List.append_toArray,List.nil_append,List.cons_append]
 gi_wp2
 go_ret;exact⟨rfl,rfl⟩
theorem back1_in (F:Fence)(n:Nat)(h7:F.fn 105)(hro:F.round=none)(hn:1≤n)(l Bs g cap:Nat)(zs:List Nat)(hz:zs.length≤1000)(J Jx:List Nat→World→Prop)
 (hY:∀pre k W (hk:k<zs.length),J pre W→pre.length<zs.length→YieldAt F (n-1) Tryz.prog l #[.int .i64 (k:Int),qW zs[k]] W fun e W'=>
  (e= .returned (.bool true)∧J (pre ++ [k]) W'∧(zf Bs W W'∧zf g W W'))∨(e= .returned (.bool false)∧Jx (pre ++ [k]) W'))
 (W:World) (hBs:W.cell? ⟨Bs,0,none⟩=some (.slice (some ⟨g,0,none⟩) zs.length cap)) (hc:∀k (hk:k<zs.length),W.cell? ⟨g,k,none⟩=some (qW zs[k])) (h0:J [] W):
 CallsIn F n Tryz.prog 105 #[.func (.yield l) #[] #[],.pointer (some ⟨Bs,0,none⟩)] W fun e W'=>(∃v,e= .returned v)∧
  ((∃ys,ys=tr.bk zs.length 0∧J ys W')∨(∃pre,pre <+:tr.bk zs.length 0∧Jx pre W')):=by
 refine callsIn_of_wp Tryz.func105 rfl h7 ?_ hro;simp only[Tryz.ntmps105,List.size_toArray,List.length_cons,List.length_nil,Nat.reduceAdd,Nat.reduceSub,Array.replicate_succ,Array.replicate_zero,List.push_toArray,List.append_toArray,List.nil_append,List.cons_append];have HC:=qe hc;have ew0:IntKind.i64.wrap ((zs.length:Int)-1)=(zs.length:Int)-1:=IntWalk.i64_in _ (by omega);clear hc
 gi_wp2
 clear ew0
 gi_loopw [3] (fun i wr=>∃k:Nat,k≤zs.length∧i= .int .i64 ((k:Int)-1)∧J (tr.bk zs.length k) wr∧wr.cell? ⟨Bs,0,none⟩=some (.slice (some ⟨g,0,none⟩) zs.length cap)∧Hid (∀k (hk:k<zs.length),wr.cell? ⟨g,k,none⟩=some (qW zs[k])))
  (fun i _=>(intOf i+1).toNat)
 case atStart=>exact⟨zs.length,Nat.le_refl _,rfl,by rw[tr.bk_full];exact h0,hBs,HC⟩
 case round=>
  obtain⟨k,hk,rfl,hJ,hbx,HC1⟩:=hrel;clear hBs HC;by_cases h1:k=0
  ·subst h1;have d0:decide ((0:Int)≤((0:Nat):Int)-1)=false:=decide_eq_false (by omega)
   gi_wp2
   go_end0
   exact⟨⟨_,rfl⟩,.inl ⟨_,rfl,hJ⟩⟩
  ·obtain⟨j,rfl⟩:∃j,k=j+1:=⟨k-1,by omega⟩;have hjl:j<zs.length:=by omega
   have ej:(((j+1:Nat):Int)-1)=(j:Int):=by omega
   rw[ej];have d0:decide ((0:Int)≤(j:Int))=true:=decide_eq_true (by omega);have hji:(j:Int)<(zs.length:Int):=by omega
   obtain⟨fn,tmps,assign,body,hy,hR⟩:=hY (tr.bk zs.length (j+1)) j wr hjl hJ (by rw[tr.bk_len];omega);have cj:=HC1.out j hjl;obtain⟨zj,hzj⟩:∃z,z=zs[j]:=⟨_,rfl⟩;rw[← hzj]at cj hy;have ew:IntKind.i64.wrap ((j:Int)-1)=(j:Int)-1:=IntWalk.i64_in _ (by omega);clear ej hzj h1
   gi_wp2
   refine hR.mono ?_;rintro e W3 (⟨rfl,hJ3,hk3,hk4⟩|⟨rfl,hJx3⟩)
   ·have hB3:=(hk3.cell 0).trans hbx;have HB3:=qe hB3;have HC3:=qe (show ∀k (hk:k<zs.length),W3.cell? ⟨g,k,none⟩=some (qW zs[k]) from fun k hk=>(hk4.cell k).trans (HC1.out k hk));clear hbx cj
    gi_wp2
    go_roundw
    case rel=>exact⟨j,by omega,rfl,by rw[tr.XM hjl];exact hJ3,HB3.out,HC3⟩
    case measure=>simp[intOf]
   ·gi_wp2
    refine bodyPost_ret (results_none rfl _ _ _) rfl ?_;exact⟨⟨_,rfl⟩,.inr ⟨_,by rw[← tr.XM hjl];exact tr.bk_pre _ (zs.length-j) j (by omega),hJx3⟩⟩
theorem back_stops (F:Fence)(n:Nat)(h7:F.fn 105)(hro:F.round=none)(hn:1≤n)(Bs g cap:Nat)(zs:List Nat)(hz:zs.length≤1000)(w:World)(hBs:Bs<w.heap.size)(hg:g<w.heap.size)
 (hb:w.cell? ⟨Bs,0,none⟩=some (.slice (some ⟨g,0,none⟩) zs.length cap)) (hc:∀k (hk:k<zs.length),w.cell? ⟨g,k,none⟩=some (qW zs[k])):
 SeqStopsK F n Tryz.prog 105 #[.pointer (some ⟨Bs,0,none⟩)] (fun x:{ k:Nat // k<zs.length}=>#[.int .i64 (x.1:Int),qW (zs[x.1]'x.2)]) (fun A B=>zf Bs A B∧zf g A B)
  (fun ys=>ys.map (·.1)=tr.bk zs.length 0) (fun pre=>pre.map (·.1) <+:tr.bk zs.length 0) zs.length w:=fun l J Jx W hW _ _ hY h0=>by
 refine(back1_in F n h7 hro hn l Bs g cap zs hz (fun pre W=>∃q:List { k:Nat // k<zs.length},q.map (·.1)=pre∧J q W) (fun pre W=>∃q:List { k:Nat // k<zs.length},q.map (·.1)=pre∧Jx q W) ?_ W ((hW.cell (p:=⟨Bs,0,none⟩) hBs).trans hb)
  (fun k hk=>(hW.cell (p:=⟨g,k,none⟩) hg).trans (hc k hk)) ⟨[],rfl,h0⟩).mono ?_
 ·rintro pre k W hk ⟨q,rfl,hJ⟩ hlen;refine(hY q ⟨k,hk⟩ W hJ (by simpa using hlen)).mono ?_;rintro e W' (⟨he,hj,hk2⟩|⟨he,hj⟩)
  ·exact .inl ⟨he,⟨q ++ [⟨k,hk⟩],by simp,hj⟩,hk2⟩
  ·exact .inr ⟨he,⟨q ++ [⟨k,hk⟩],by simp,hj⟩⟩
 ·rintro e W' ⟨he,⟨ys,hys,q,hq,hj⟩|⟨pre,hpre,q,hq,hj⟩⟩
  ·exact⟨he,.inl ⟨q,hq.trans hys,hj⟩⟩
  ·exact⟨he,.inr ⟨q,by show q.map (·.1) <+:_;rw[hq];exact hpre,hj⟩⟩
theorem chunk_any (ao:Option Addr)(m cap:Nat)(w:World):
 Calls Tryz.prog 39 #[.slice ao m cap,.int .i64 16] w fun e w'=>e= .returned (.func (.func 71) #[] #[.pointer (some ⟨w.heap.size,0,none⟩),.pointer (some ⟨w.heap.size+1,0,none⟩)])∧
  w'=(w.alloc (.cells #[.slice ao m cap] 31)).alloc (.cells #[.int .i64 16] 3):=by
 refine(callsIn_wide (n:=3)).1 ?_;refine callsIn_of_wp Tryz.func39 rfl trivial ?_ rfl;simp only[Tryz.ntmps39,List.size_toArray,List.length_cons,List.length_nil,Nat.reduceAdd,Nat.reduceSub,Array.replicate_succ,Array.replicate_zero,List.push_toArray,List.append_toArray,List.nil_append,List.cons_append];have c1:=zw (w.alloc (.cells #[.slice ao m cap] 31)) (.int .i64 16) 3;simp only[World.size_alloc]at c1
 gi_wp2
 go_ret;exact⟨rfl,rfl⟩
def partV (g n k:Nat):Value:=.slice (some ⟨g,k*16*5,none⟩) (min 16 (n-k*16)) (min 16 (n-k*16))
theorem chunk1_in (F:Fence)(n:Nat)(h7:F.fn 71)(hro:F.round=none)(hn:1≤n)(l Bs Bn g m cap N:Nat)(hm:m≤1000000)(hcap:m≤cap)(hN:m≤N*16∧N*16<m+16)(J Jx:List Nat→World→Prop)(hJd:∀pre W,J pre W→J pre W.drew)
 (hY:∀pre k W,k<N→J pre W→pre.length<N→YieldAt F (n-1) Tryz.prog l #[partV g m k] W fun e W'=>
  (e= .returned (.bool true)∧J (pre ++ [k]) W'∧(zf Bs W W'∧zf Bn W W'))∨(e= .returned (.bool false)∧Jx (pre ++ [k]) W'))
 (W:World) (hBs:W.cell? ⟨Bs,0,none⟩=some (.slice (some ⟨g,0,none⟩) m cap)) (hBn:W.cell? ⟨Bn,0,none⟩=some (.int .i64 16)) (h0:J [] W):
 CallsIn F n Tryz.prog 71 #[.func (.yield l) #[] #[],.pointer (some ⟨Bs,0,none⟩),.pointer (some ⟨Bn,0,none⟩)] W fun e W'=>(∃v,e= .returned v)∧
  ((∃ys,ys=List.range N∧J ys W')∨(∃pre,pre <+:List.range N∧Jx pre W')):=by
 refine callsIn_of_wp Tryz.func71 rfl h7 ?_ hro;simp only[Tryz.ntmps71,List.size_toArray,List.length_cons,List.length_nil,Nat.reduceAdd,Nat.reduceSub,Array.replicate_succ,Array.replicate_zero,List.push_toArray,List.append_toArray,List.nil_append,List.cons_append]
 gi_wp2
 gi_loopw [4,5] (fun i _ wr=>∃k:Nat,k≤N∧i= .int .i64 ((k*16:Nat):Int)∧J (List.range k) wr∧wr.cell? ⟨Bs,0,none⟩=some (.slice (some ⟨g,0,none⟩) m cap)∧wr.cell? ⟨Bn,0,none⟩=some (.int .i64 16))
  (fun i _ _=>m+16-(intOf i).toNat)
 case atStart=>exact⟨0,Nat.zero_le _,rfl,h0,hBs,hBn⟩
 case round=>
  obtain⟨k,hk,rfl,hJ,hbx,hbn⟩:=hrel;clear hBs hBn;obtain⟨j,hj⟩:∃j,j=k*16:=⟨_,rfl⟩;have HJ:=qe hj;rw[← hj];by_cases h1:k<N
  ·have hjm:j<m:=by omega
   have hji:(j:Int)<(m:Int):=by omega
   obtain⟨fn,tmps,assign,body,hy,hR⟩:=hY (List.range k) k wr.drew h1 (hJd _ _ hJ) (by simpa using h1);obtain⟨e,he⟩:∃e,e=min 16 (m-j):=⟨_,rfl⟩;have hy':(Instr.yield l #[.slice (some ⟨g,j*5,none⟩) e e]).run Tryz.prog wr.drew= .ok (.round l fn tmps assign body) wr.drew:=by
    have h2:partV g m k= .slice (some ⟨g,j*5,none⟩) e e:=by unfold partV;rw[← hj,← he]
    rw[← h2];exact hy
   have e0:j≤m:=by omega
   have e1:¬(cap=j):=by omega
   have e2:min (16:Int) ((m-j:Nat):Int)=(e:Int):=by omega
   have e2':min (16:Int) ((m:Int)-(j:Int))=(e:Int):=by omega
   have e3:IntKind.i64.wrap ((j:Int)+(e:Int))=((j+e:Nat):Int):=by rw[IntWalk.i64_in _ (by omega)];omega
   have e4:j+e≤cap:=by omega
   have e5:j≤j+e:=by omega
   have e6:j+e-j=e:=by omega
   have e7:¬(e=0):=by omega
   have e8:IntKind.i64.wrap ((j:Int)+16)=((j+16:Nat):Int):=by rw[IntWalk.i64_in _ (by omega)];omega
   have e9:m≤cap:=hcap;have e10:0<e:=by omega
   have HE:=qe he;have hk1:k+1≤N:=h1;clear hj he hy h1
   gi_wp2
   gi_region
   all_goals
    gi_wp2
    refine hR.mono ?_;rintro e W3 (⟨rfl,hJ3,hk3,hk4⟩|⟨rfl,hJx3⟩)
    ·have hB3:=(hk3.cell 0).trans hbx;have hB4:=(hk4.cell 0).trans hbn;have HB3:=qe hB3;have HB4:=qe hB4;clear hbx hbn
     gi_wp2
     go_roundw
     case rel=>exact⟨k+1,by omega,by rw[HJ.out];go_num,by rw[List.range_succ];exact hJ3,HB3.out,HB4.out⟩
     case measure=>have:=HJ.out;simp[intOf];omega
    ·gi_wp2
     refine bodyPost_ret (results_none rfl _ _ _) rfl ?_;exact⟨⟨_,rfl⟩,.inr ⟨_,by rw[← List.range_succ];exact tr.range_pre hk1,hJx3⟩⟩
  ·have HJJ:=qe hJ;clear hJ;have hkN:k=N:=by omega
   have hjm:¬((j:Int)<(m:Int)):=by omega
   have d0:decide ((j:Int)<(m:Int))=false:=decide_eq_false hjm;subst hkN
   gi_wp2
   go_end0
   exact⟨⟨_,rfl⟩,.inl (by first | exact⟨_,rfl,HJJ.out⟩|exact HJJ.out)⟩
theorem chunk_stops (F:Fence)(n:Nat)(h7:F.fn 71)(hro:F.round=none)(hn:1≤n)(Bs Bn g m cap N:Nat)(hm:m≤1000000)(hcap:m≤cap)(hN:m≤N*16∧N*16<m+16)(w:World)(hBl:Bs<w.heap.size)(hBm:Bn<w.heap.size)
 (hb:w.cell? ⟨Bs,0,none⟩=some (.slice (some ⟨g,0,none⟩) m cap)) (hc:w.cell? ⟨Bn,0,none⟩=some (.int .i64 16)):
 SeqStopsK F n Tryz.prog 71 #[.pointer (some ⟨Bs,0,none⟩),.pointer (some ⟨Bn,0,none⟩)] (fun x:{ k:Nat // k<N}=>#[partV g m x.1]) (fun A B=>zf Bs A B∧zf Bn A B)
  (fun ys=>ys.map (·.1)=List.range N) (fun pre=>pre.map (·.1) <+:List.range N) N w:=fun l J Jx W hW hA _ hY h0=>by
 refine(chunk1_in F n h7 hro hn l Bs Bn g m cap N hm hcap hN (fun pre W=>∃q:List { k:Nat // k<N},q.map (·.1)=pre∧J q W) (fun pre W=>∃q:List { k:Nat // k<N},q.map (·.1)=pre∧Jx q W) ?_ ?_ W ((hW.cell (p:=⟨Bs,0,none⟩) hBl).trans hb)
  ((hW.cell (p:=⟨Bn,0,none⟩) hBm).trans hc) ⟨[],rfl,h0⟩).mono ?_
 ·rintro pre W' ⟨q,hq,hj⟩;exact⟨q,hq,hA _ _ _ none hj ⟨rfl,rfl,rfl,Nat.le_refl _,fun _ _ _=>rfl⟩ (fun r e=>by cases e)⟩
 ·rintro pre k W hk ⟨q,rfl,hJ⟩ hlen;refine(hY q ⟨k,hk⟩ W hJ (by simpa using hlen)).mono ?_;rintro e W' (⟨he,hj,hk2⟩|⟨he,hj⟩)
  ·exact .inl ⟨he,⟨q ++ [⟨k,hk⟩],by simp,hj⟩,hk2⟩
  ·exact .inr ⟨he,⟨q ++ [⟨k,hk⟩],by simp,hj⟩⟩
 ·rintro e W' ⟨he,⟨ys,hys,q,hq,hj⟩|⟨pre,hpre,q,hq,hj⟩⟩
  ·exact⟨he,.inl ⟨q,hq.trans hys,hj⟩⟩
  ·exact⟨he,.inr ⟨q,by show q.map (·.1) <+:_;rw[hq];exact hpre,hj⟩⟩
end Go.Proofs.YtpcmilhjpmlbpaaGreatDoor
