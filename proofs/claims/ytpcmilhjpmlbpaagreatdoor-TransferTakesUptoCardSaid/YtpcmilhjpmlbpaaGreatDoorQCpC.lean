import Derived.Test.YtpcmilhjpmlbpaaGreatDoorQCpR
import Derived.Stop.RegionWithIn
import Derived.RegionIn
import Derived.RangeFuncFrom
set_option maxRecDepth 100000
set_option maxHeartbeats 8000000
namespace Go.Proofs.YtpcmilhjpmlbpaaGreatDoor
open Go.RowKit Go.Shelf nm od
attribute [local go_sem] Oper.semAt_some
theorem uj {W W':World}(h:Below W.heap.size W W'):KeepsOthers W W':=⟨h.size,λk _ hk _=>(h.block k (qA hk)).trans hk⟩
theorem ZT {l n:Nat}{P:Program}{f:FuncId}{args:Array Value}{w:World}{R:Ending->World->Prop}(h:Calls P f args w R):CallsIn (Fence.wide.inRound l) n P f args w R:=(callsIn_wide (n:=n)).2 h
namespace tr
def bk (n k:Nat):List Nat:=(List.range' k (n-k)).reverse
theorem bk_full (n:Nat):bk n n= []:=by unfold bk;simp
theorem XV {n k:Nat}(h:k<n):bk n k=bk n (k+1) ++ [k]:=by
 unfold bk;rw[show n-k=(n-(k+1))+1 by omega,List.range'_succ,List.reverse_cons]
theorem bk_len (n k:Nat):(bk n k).length=n-k:=by unfold bk;simp
theorem mem_bk {n k x:Nat}:x∈bk n k↔k<=x/\x<n:=by
 unfold bk;rw[List.mem_reverse,List.mem_range'_1];omega
theorem bk_pre (n:Nat):∀j k,k+j=n->bk n k <+:bk n 0
 | j,0,_=>List.prefix_refl _
 | j,k+1,h=>by
   refine List.IsPrefix.trans ?_ (bk_pre n (j+1) k (by omega));rw[XV (show k<n by omega)];exact List.prefix_append _ _
theorem range_pre {k n:Nat}(h:k<=n):List.range k <+:List.range n:=by
 obtain⟨d,rfl⟩:∃d,n=k+d:=⟨n-k,by omega⟩;rw[List.range_add];exact List.prefix_append _ _
theorem bk_last {n x:Nat}{P:List Nat}(h:P ++ [x] <+:bk n 0):P=bk n (x+1)/\x<n:=by
 have hl:=h.length_le;rw[gK,gT,bk_len]at hl;have h2:=bk_pre n (P.length+1) (n-(P.length+1)) (by omega);have h3:P ++ [x]=bk n (n-(P.length+1)):=(List.prefix_of_prefix_length_le h h2 (by rw[bk_len];simp;omega)).eq_of_length (by rw[bk_len];simp;omega);rw[XV (by omega)]at h3;obtain⟨h4,h5⟩:=List.append_inj' h3 rfl;have h6:x=n-(P.length+1):=by simpa using h5
 refine⟨?_,by omega⟩;rw[h6];exact h4
end tr
theorem back_any (ao:Option Addr)(m cap:Nat)(w:World):
 Calls Tryz.prog 69 #[.slice ao m cap] w λe w'=>e= .returned (.func (.func 105) #[] #[.pointer (some ⟨w.heap.size,0,none⟩)])/\w'=w.alloc (.cells #[.slice ao m cap] 118):=by
 refine(callsIn_wide (n:=3)).1 ?_;refine callsIn_of_wp Tryz.func69 rfl trivial ?_ rfl;simp only[Tryz.ntmps69,List.size_toArray,Ha,List.length_nil,Nat.reduceAdd,Nat.reduceSub,Array.replicate_succ,Array.replicate_zero,List.push_toArray,List.append_toArray,List.nil_append,List.cons_append]
 gi_wp2
 go_ret;exact⟨rfl,rfl⟩
theorem back1_in (F:Fence)(n:Nat)(h7:F.fn 105)(hro:F.round=none)(hn:1<=n)(l Bs g cap:Nat)(zs:List Nat)(hz:zs.length<=1000)(J Jx:List Nat->World->Prop)
 (hY:∀pre k W (hk:k<zs.length),J pre W->pre.length<zs.length->YieldAt F (n-1) Tryz.prog l #[.int .i64 (k:Int),qX zs[k]] W λe W'=>
  (e= .returned (.bool true)/\J (pre ++ [k]) W'/\(ze Bs W W'/\ze g W W'))\/(e= .returned (.bool false)/\Jx (pre ++ [k]) W'))
 (W:World) (hBs:W.cell? ⟨Bs,0,none⟩=some (.slice (some ⟨g,0,none⟩) zs.length cap)) (hc:∀k (hk:k<zs.length),W.cell? ⟨g,k,none⟩=some (qX zs[k])) (h0:J [] W):
 CallsIn F n Tryz.prog 105 #[.func (.yield l) #[] #[],.pointer (some ⟨Bs,0,none⟩)] W λe W'=>(∃v,e= .returned v)/\
  ((∃ys,ys=tr.bk zs.length 0/\J ys W')\/(∃pre,pre <+:tr.bk zs.length 0/\Jx pre W')):=by
 refine callsIn_of_wp Tryz.func105 rfl h7 ?_ hro;simp only[Tryz.ntmps105,List.size_toArray,Ha,List.length_nil,Nat.reduceAdd,Nat.reduceSub,Array.replicate_succ,Array.replicate_zero,List.push_toArray,List.append_toArray,List.nil_append,List.cons_append];have HC:=qe hc;have ew0:IntKind.i64.wrap ((zs.length:Int)-1)=(zs.length:Int)-1:=Hg _ (by omega);clear hc
 gi_wp2
 clear ew0
 gi_loopw [3] (λi wr=>∃k:Nat,k<=zs.length/\i= .int .i64 ((k:Int)-1)/\J (tr.bk zs.length k) wr/\wr.cell? ⟨Bs,0,none⟩=some (.slice (some ⟨g,0,none⟩) zs.length cap)/\Hid (∀k (hk:k<zs.length),wr.cell? ⟨g,k,none⟩=some (qX zs[k])))
  (λi _=>(intOf i+1).toNat)
 case atStart=>exact⟨zs.length,gI _,rfl,by rw[tr.bk_full];exact h0,hBs,HC⟩
 case round=>
  obtain⟨k,hk,rfl,hJ,hbx,HC1⟩:=hrel;clear hBs HC;by_cases h1:k=0
  ·subst h1;have d0:decide ((0:Int)<=((0:Nat):Int)-1)=false:=gp (by omega)
   gi_wp2
   go_end0
   exact⟨⟨_,rfl⟩,.inl ⟨_,rfl,hJ⟩⟩
  ·obtain⟨j,rfl⟩:∃j,k=j+1:=⟨k-1,by omega⟩;have hjl:j<zs.length:=by omega
   have ej:(((j+1:Nat):Int)-1)=(j:Int):=by omega
   rw[ej];have d0:decide ((0:Int)<=(j:Int))=true:=gF (by omega);have hji:(j:Int)<(zs.length:Int):=by omega
   obtain⟨fn,tmps,assign,body,hy,hR⟩:=hY (tr.bk zs.length (j+1)) j wr hjl hJ (by rw[tr.bk_len];omega);have cj:=HC1.out j hjl;obtain⟨zj,hzj⟩:=yM (zs[j]);rw[<- hzj]at cj hy;have ew:IntKind.i64.wrap ((j:Int)-1)=(j:Int)-1:=Hg _ (by omega);clear ej hzj h1
   gi_wp2
   refine hR.mono ?_;rintro e W3 (⟨rfl,hJ3,hk3,hk4⟩|⟨rfl,hJx3⟩)
   ·have hB3:=(hk3.cell 0).trans hbx;have HB3:=qe hB3;have HC3:=qe (show ∀k (hk:k<zs.length),W3.cell? ⟨g,k,none⟩=some (qX zs[k]) from λk hk=>(hk4.cell k).trans (HC1.out k hk));clear hbx cj
    gi_wp2
    go_roundw
    case rel=>exact⟨j,by omega,rfl,by rw[tr.XV hjl];exact hJ3,HB3.out,HC3⟩
    case measure=>simp[intOf]
   ·gi_wp2
    refine bodyPost_ret (results_none rfl _ _ _) rfl ?_;exact⟨⟨_,rfl⟩,.inr ⟨_,by rw[<- tr.XV hjl];exact tr.bk_pre _ (zs.length-j) j (by omega),hJx3⟩⟩
theorem back_stops (F:Fence)(n:Nat)(h7:F.fn 105)(hro:F.round=none)(hn:1<=n)(Bs g cap:Nat)(zs:List Nat)(hz:zs.length<=1000)(w:World)(hBs:Bs<w.heap.size)(hg:g<w.heap.size)
 (hb:w.cell? ⟨Bs,0,none⟩=some (.slice (some ⟨g,0,none⟩) zs.length cap)) (hc:∀k (hk:k<zs.length),w.cell? ⟨g,k,none⟩=some (qX zs[k])):
 SeqStopsK F n Tryz.prog 105 #[.pointer (some ⟨Bs,0,none⟩)] (λx:{ k:Nat // k<zs.length}=>#[.int .i64 (x.1:Int),qX (zs[x.1]'x.2)]) (λA B=>ze Bs A B/\ze g A B)
  (λys=>ys.map (·.1)=tr.bk zs.length 0) (λpre=>pre.map (·.1) <+:tr.bk zs.length 0) zs.length w:=λl J Jx W hW _ _ hY h0=>by
 refine(back1_in F n h7 hro hn l Bs g cap zs hz (λpre W=>∃q:List { k:Nat // k<zs.length},q.map (·.1)=pre/\J q W) (λpre W=>∃q:List { k:Nat // k<zs.length},q.map (·.1)=pre/\Jx q W) ?_ W ((hW.cell (p:=⟨Bs,0,none⟩) hBs).trans hb)
  (λk hk=>(hW.cell (p:=⟨g,k,none⟩) hg).trans (hc k hk)) ⟨[],rfl,h0⟩).mono ?_
 ·rintro pre k W hk ⟨q,rfl,hJ⟩ hlen;refine(hY q ⟨k,hk⟩ W hJ (by simpa using hlen)).mono ?_;rintro e W' (⟨he,hj,hk2⟩|⟨he,hj⟩)
  ·exact .inl ⟨he,⟨q ++ [⟨k,hk⟩],by simp,hj⟩,hk2⟩
  ·exact .inr ⟨he,⟨q ++ [⟨k,hk⟩],by simp,hj⟩⟩
 ·rintro e W' ⟨he,⟨ys,hys,q,hq,hj⟩|⟨pre,hpre,q,hq,hj⟩⟩
  ·exact⟨he,.inl ⟨q,hq.trans hys,hj⟩⟩
  ·exact⟨he,.inr ⟨q,by show q.map (·.1) <+:_;rw[hq];exact hpre,hj⟩⟩
theorem chunk_any (ao:Option Addr)(m cap:Nat)(w:World):
 Calls Tryz.prog 39 #[.slice ao m cap,.int .i64 16] w λe w'=>e= .returned (.func (.func 71) #[] #[.pointer (some ⟨w.heap.size,0,none⟩),.pointer (some ⟨w.heap.size+1,0,none⟩)])/\
  w'=(w.alloc (.cells #[.slice ao m cap] 31)).alloc (.cells #[.int .i64 16] 3):=by
 refine(callsIn_wide (n:=3)).1 ?_;refine callsIn_of_wp Tryz.func39 rfl trivial ?_ rfl;simp only[Tryz.ntmps39,List.size_toArray,Ha,List.length_nil,Nat.reduceAdd,Nat.reduceSub,Array.replicate_succ,Array.replicate_zero,List.push_toArray,List.append_toArray,List.nil_append,List.cons_append];have c1:=zC (w.alloc (.cells #[.slice ao m cap] 31)) (.int .i64 16) 3;simp only[World.size_alloc]at c1
 gi_wp2
 go_ret;exact⟨rfl,rfl⟩
def partV (g n k:Nat):Value:=.slice (some ⟨g,k*16*5,none⟩) (min 16 (n-k*16)) (min 16 (n-k*16))
theorem chunk1_in (F:Fence)(n:Nat)(h7:F.fn 71)(hro:F.round=none)(hn:1<=n)(l Bs Bn g m cap N:Nat)(hm:m<=1000000)(hcap:m<=cap)(hN:m<=N*16/\N*16<m+16)(J Jx:List Nat->World->Prop)(hJd:∀pre W,J pre W->J pre W.drew)
 (hY:∀pre k W,k<N->J pre W->pre.length<N->YieldAt F (n-1) Tryz.prog l #[partV g m k] W λe W'=>
  (e= .returned (.bool true)/\J (pre ++ [k]) W'/\(ze Bs W W'/\ze Bn W W'))\/(e= .returned (.bool false)/\Jx (pre ++ [k]) W'))
 (W:World) (hBs:W.cell? ⟨Bs,0,none⟩=some (.slice (some ⟨g,0,none⟩) m cap)) (hBn:W.cell? ⟨Bn,0,none⟩=some (.int .i64 16)) (h0:J [] W):
 CallsIn F n Tryz.prog 71 #[.func (.yield l) #[] #[],.pointer (some ⟨Bs,0,none⟩),.pointer (some ⟨Bn,0,none⟩)] W λe W'=>(∃v,e= .returned v)/\
  ((∃ys,ys=List.range N/\J ys W')\/(∃pre,pre <+:List.range N/\Jx pre W')):=by
 refine callsIn_of_wp Tryz.func71 rfl h7 ?_ hro;simp only[Tryz.ntmps71,List.size_toArray,Ha,List.length_nil,Nat.reduceAdd,Nat.reduceSub,Array.replicate_succ,Array.replicate_zero,List.push_toArray,List.append_toArray,List.nil_append,List.cons_append]
 gi_wp2
 gi_loopw [4,5] (λi _ wr=>∃k:Nat,k<=N/\i= .int .i64 ((k*16:Nat):Int)/\J (List.range k) wr/\wr.cell? ⟨Bs,0,none⟩=some (.slice (some ⟨g,0,none⟩) m cap)/\wr.cell? ⟨Bn,0,none⟩=some (.int .i64 16))
  (λi _ _=>m+16-(intOf i).toNat)
 case atStart=>exact⟨0,gU _,rfl,h0,hBs,hBn⟩
 case round=>
  obtain⟨k,hk,rfl,hJ,hbx,hbn⟩:=hrel;clear hBs hBn;obtain⟨j,hj⟩:=yM (k*16);have HJ:=qe hj;rw[<- hj];by_cases h1:k<N
  ·have hjm:j<m:=by omega
   have hji:(j:Int)<(m:Int):=by omega
   obtain⟨fn,tmps,assign,body,hy,hR⟩:=hY (List.range k) k wr.drew h1 (hJd _ _ hJ) (by simpa using h1);obtain⟨e,he⟩:=yM (min 16 (m-j));have hy':(Instr.yield l #[.slice (some ⟨g,j*5,none⟩) e e]).run Tryz.prog wr.drew= .ok (.round l fn tmps assign body) wr.drew:=by
    have h2:partV g m k= .slice (some ⟨g,j*5,none⟩) e e:=by unfold partV;rw[<- hj,<- he]
    rw[<- h2];exact hy
   have e0:j<=m:=by omega
   have e1:¬(cap=j):=by omega
   have e2:min (16:Int) ((m-j:Nat):Int)=(e:Int):=by omega
   have e2':min (16:Int) ((m:Int)-(j:Int))=(e:Int):=by omega
   have e3:IntKind.i64.wrap ((j:Int)+(e:Int))=((j+e:Nat):Int):=by rw[Hg _ (by omega)];omega
   have e4:j+e<=cap:=by omega
   have e5:j<=j+e:=by omega
   have e6:j+e-j=e:=by omega
   have e7:¬(e=0):=by omega
   have e8:IntKind.i64.wrap ((j:Int)+16)=((j+16:Nat):Int):=by rw[Hg _ (by omega)];omega
   have e9:m<=cap:=hcap;have e10:0<e:=by omega
   have HE:=qe he;have hk1:k+1<=N:=h1;clear hj he hy h1
   gi_wp2
   gi_region
   all_goals
    gi_wp2
    refine hR.mono ?_;rintro e W3 (⟨rfl,hJ3,hk3,hk4⟩|⟨rfl,hJx3⟩)
    ·have hB3:=(hk3.cell 0).trans hbx;have hB4:=(hk4.cell 0).trans hbn;have HB3:=qe hB3;have HB4:=qe hB4;clear hbx hbn
     gi_wp2
     go_roundw
     case rel=>exact⟨k+1,by omega,by rw[HJ.out];go_num,by rw[List.range_succ];exact hJ3,HB3.out,HB4.out⟩
     case measure=>have:=HJ.out;simp[intOf];omega
    ·gi_wp2
     refine bodyPost_ret (results_none rfl _ _ _) rfl ?_;exact⟨⟨_,rfl⟩,.inr ⟨_,by rw[<- List.range_succ];exact tr.range_pre hk1,hJx3⟩⟩
  ·have HJJ:=qe hJ;clear hJ;have hkN:k=N:=by omega
   have hjm:¬((j:Int)<(m:Int)):=by omega
   have d0:decide ((j:Int)<(m:Int))=false:=gp hjm;subst hkN
   gi_wp2
   go_end0
   exact⟨⟨_,rfl⟩,.inl (by first | exact⟨_,rfl,HJJ.out⟩|exact HJJ.out)⟩
theorem chunk_stops (F:Fence)(n:Nat)(h7:F.fn 71)(hro:F.round=none)(hn:1<=n)(Bs Bn g m cap N:Nat)(hm:m<=1000000)(hcap:m<=cap)(hN:m<=N*16/\N*16<m+16)(w:World)(hBl:Bs<w.heap.size)(hBm:Bn<w.heap.size)
 (hb:w.cell? ⟨Bs,0,none⟩=some (.slice (some ⟨g,0,none⟩) m cap)) (hc:w.cell? ⟨Bn,0,none⟩=some (.int .i64 16)):
 SeqStopsK F n Tryz.prog 71 #[.pointer (some ⟨Bs,0,none⟩),.pointer (some ⟨Bn,0,none⟩)] (λx:{ k:Nat // k<N}=>#[partV g m x.1]) (λA B=>ze Bs A B/\ze Bn A B)
  (λys=>ys.map (·.1)=List.range N) (λpre=>pre.map (·.1) <+:List.range N) N w:=λl J Jx W hW hA _ hY h0=>by
 refine(chunk1_in F n h7 hro hn l Bs Bn g m cap N hm hcap hN (λpre W=>∃q:List { k:Nat // k<N},q.map (·.1)=pre/\J q W) (λpre W=>∃q:List { k:Nat // k<N},q.map (·.1)=pre/\Jx q W) ?_ ?_ W ((hW.cell (p:=⟨Bs,0,none⟩) hBl).trans hb)
  ((hW.cell (p:=⟨Bn,0,none⟩) hBm).trans hc) ⟨[],rfl,h0⟩).mono ?_
 ·rintro pre W' ⟨q,hq,hj⟩;exact⟨q,hq,hA _ _ _ none hj ⟨rfl,rfl,rfl,gI _,λ_ _ _=>rfl⟩ (λr e=>by cases e)⟩
 ·rintro pre k W hk ⟨q,rfl,hJ⟩ hlen;refine(hY q ⟨k,hk⟩ W hJ (by simpa using hlen)).mono ?_;rintro e W' (⟨he,hj,hk2⟩|⟨he,hj⟩)
  ·exact .inl ⟨he,⟨q ++ [⟨k,hk⟩],by simp,hj⟩,hk2⟩
  ·exact .inr ⟨he,⟨q ++ [⟨k,hk⟩],by simp,hj⟩⟩
 ·rintro e W' ⟨he,⟨ys,hys,q,hq,hj⟩|⟨pre,hpre,q,hq,hj⟩⟩
  ·exact⟨he,.inl ⟨q,hq.trans hys,hj⟩⟩
  ·exact⟨he,.inr ⟨q,by show q.map (·.1) <+:_;rw[hq];exact hpre,hj⟩⟩
end Go.Proofs.YtpcmilhjpmlbpaaGreatDoor
namespace Go.Proofs.YtpcmilhjpmlbpaaGreatDoor
open Go.RowKit Go.Shelf nm od
attribute [local go_sem] Oper.semAt_some
theorem bodyM_ret {F:Fence}{n:Nat}{P:Program}{fn:Func}{R:Ending->World->Prop}{a:Act}{w:World}{v:Value}(hr:(results fn a.tmps).run P w= .ok v w)(hd:a.defers= [])(hR:R (.returned v) w):bodyPostM F n P fn R .ret a w:=by
 show LeavesInM F n P fn a.tmps R a.defers .returning w;rw[hd];exact⟨v,hr,hR⟩
theorem row_res {tmps:Array Value}{w:World}{b4 b5:Nat}{v:Value}{c:Int}(h4:tmps.getD 4 undef= .pointer (some ⟨b4,0,none⟩))(h5:tmps.getD 5 undef= .pointer (some ⟨b5,0,none⟩))
 (c4:w.cell? ⟨b4,0,none⟩=some v) (c5:w.cell? ⟨b5,0,none⟩=some (.int .i64 c)):(results Tryz.f35 tmps).run Tryz.prog w= .ok (.tuple #[v,.int .i64 c]) w:=by
 have h4':tmps[4]?.getD undef= .pointer (some ⟨b4,0,none⟩):=by simpa using h4
 have h5':tmps[5]?.getD undef= .pointer (some ⟨b5,0,none⟩):=by simpa using h5
 simp[results,Tryz.f35,go_sem,h4',h5',c4,c5]
theorem Zx {X:World}{b4 b5:Nat}{u4 u5 v c:Value}(hne:b4≠b5)(h4:X.cell? ⟨b4,0,none⟩=some u4)(h5:X.cell? ⟨b5,0,none⟩=some u5):
 ((X.setCell ⟨b4,0,none⟩ v).setCell ⟨b5,0,none⟩ c).cell? ⟨b4,0,none⟩=some v/\((X.setCell ⟨b4,0,none⟩ v).setCell ⟨b5,0,none⟩ c).cell? ⟨b5,0,none⟩=some c:=by
 have e1:(X.setCell ⟨b4,0,none⟩ v).cell? ⟨b4,0,none⟩=some v:=World.cell?_setCell_same' _ _ _ (by rw[h4];rfl);have e2:(X.setCell ⟨b4,0,none⟩ v).cell? ⟨b5,0,none⟩=some u5:=(World.cell?_of_block (w:=X) (a:=⟨b5,0,none⟩) (gP _ _ _ _ (λe=>hne e.symm))).trans h5;exact⟨(World.cell?_of_block (w:=X.setCell ⟨b4,0,none⟩ v) (a:=⟨b4,0,none⟩) (gP _ _ _ _ hne)).trans e1,World.cell?_setCell_same' _ _ _ (by rw[e2];rfl)⟩
theorem kW {n:Nat}{R:Ending->World->Prop}{a:Act}{X:World}{b4 b5:Nat}{u4 u5 v:Value}{c:Int}(h4:a.tmps.getD 4 undef= .pointer (some ⟨b4,0,none⟩))(h5:a.tmps.getD 5 undef= .pointer (some ⟨b5,0,none⟩))(hd:a.defers= [])(hne:b4≠b5)
 (x4:X.cell? ⟨b4,0,none⟩=some u4) (x5:X.cell? ⟨b5,0,none⟩=some u5) (hR:R (.returned (.tuple #[v,.int .i64 c])) ((X.setCell ⟨b4,0,none⟩ v).setCell ⟨b5,0,none⟩ (.int .i64 c))):
 bodyPostM Fence.wide n Tryz.prog Tryz.f35 R .ret a ((X.setCell ⟨b4,0,none⟩ v).setCell ⟨b5,0,none⟩ (.int .i64 c)):=
 bodyM_ret (row_res h4 h5 (Zx hne x4 x5).1 (Zx hne x4 x5).2) hd hR
theorem yV {R:List Rec×Int}{L:List Rec}{c:Int}{v:Value}{w w4 X:World}{b4 b5:Nat}(h:R=(L,c))(hb4:w.heap.size<=b4/\b4<w4.heap.size)(hb5:w.heap.size<=b5/\b5<w4.heap.size)(hs:w.heap.size<=w4.heap.size)(hB:Below w.heap.size w X)
 (ho:X.ownsRow w4.heap.size 80 5 v L.length (qw L)):Kg R w (.returned (.tuple #[v,.int .i64 c])) ((X.setCell ⟨b4,0,none⟩ v).setCell ⟨b5,0,none⟩ (.int .i64 c)):=by
 subst h;refine⟨_,rfl,(hB.setCell (p:=⟨b4,0,none⟩) hb4.1 _).setCell (p:=⟨b5,0,none⟩) hb5.1 _,qK (qm ho λb hb=>?_) hs⟩;have h1:=(ho.lt b hb).1;rw[gP _ _ _ _ (show b≠b5 by omega),gP _ _ _ _ (show b≠b4 by omega)]
theorem owns_grown {A B:World}{row:Option Nat}{base:Nat}{e:TypeId}{size:Nat}{v:Value}{n:Nat}{xs:List Value}(h:A.ownsRow base e size v n xs)(hg:A.grownBy B row)(hr:∀r,row=some r->∃o:Obj,A.heap[r]? =some o/\o.isCells=false):B.ownsRow base e size v n xs:=
 qm h λb hb=>by
  rcases h.2 with⟨rfl,_⟩|⟨g,cap,cur,rfl,h1,h2,_⟩
  ·cases hb
  ·simp only[Value.ownBlock,gM]at hb;subst hb;exact grownBy_keeps_cells hg hr h2 rfl
def RowEx (w w13:World)(k4 k5:Nat)(zs:List Nat)(H:List tr.Zn)(sn:Int)(m:Nat)(c:Code)(pre:List { k:Nat // k<zs.length})(X:World):Prop:=
 ∃pre0 x,pre=pre0 ++ [x]/\tr.yD (tr.zh H x.1)=sn/\((∀p∈pre0,tr.yD (tr.zh H p.1)≠sn)/\
  ((c= .ret/\(tr.yY H x.1).length<=m/\Below w.heap.size w X/\∃v,X.cell? ⟨k4,0,none⟩=some v/\X.cell? ⟨k5,0,none⟩=some (.int .i64 0)/\X.ownsRow w13.heap.size 80 5 v (tr.yY H x.1).length (qw (tr.yY H x.1)))\/
    (c= .exit 1/\¬(tr.yY H x.1).length<=m/\Below w13.heap.size w13 X)))
theorem rowEx_own {w w13:World}{k4 k5:Nat}{zs:List Nat}{H:List tr.Zn}{sn:Int}{m:Nat}{c:Code}(hs:w.heap.size<=w13.heap.size):OwnFrom w13.heap.size (RowEx w w13 k4 k5 zs H sn m c):=by
 rintro s A B row ⟨pre0,x,h1,h2,h3,h4⟩ hg hr;refine⟨pre0,x,h1,h2,h3,?_⟩;rcases h4 with⟨hc,hl,hB,v,c4,c5,ho⟩|⟨hc,hl,hB⟩
 ·exact .inl ⟨hc,hl,ownFrom_below (β:=Unit) (gI _) hs () A B row hB hg hr,v,cell_kept c4 hg (λr e=>(hr r e).2),cell_kept c5 hg (λr e=>(hr r e).2),owns_grown ho hg λr e=>(hr r e).2⟩
 ·exact .inr ⟨hc,hl,ownFrom_below (β:=Unit) (gI _) (gI _) () A B row hB hg hr⟩
namespace tr
theorem fr_none {H:List Zn}{s:Int}:∀k,(∀i,i<k->yD (zh H i)≠s)->frI H s k= -1
 | 0,_=>rfl
 | k+1,h=>by
   unfold frI;rw[if_neg (h k (by omega))];exact fr_none k λi hi=>h i (by omega)
theorem fr_at {H:List Zn}{s:Int}{f:Nat}(h1:yD (zh H f)=s):∀k,f<k->(∀i,f<i->i<k->yD (zh H i)≠s)->frI H s k=(f:Int)
 | 0,h,_=>absurd h (Nat.not_lt_zero _)
 | k+1,h,hn=>by
   unfold frI;by_cases e:f=k
   ·subst e;rw[if_pos h1]
   ·rw[if_neg (hn k (by omega) (by omega))];exact fr_at h1 k (by omega) λi h2 h3=>hn i h2 (by omega)
end tr
theorem KT {n D:Nat}{R:List Rec×Int}{w:World}{a:Act}{X:World}{b4 b5:Nat}{v:Value}{c:Int}(h4:a.tmps.getD 4 undef= .pointer (some ⟨b4,0,none⟩))(h5:a.tmps.getD 5 undef= .pointer (some ⟨b5,0,none⟩))(hd:a.defers= [{ target:=.collected D,args:=#[]}])(hwD:w.heap.size<=D)(hK:X.heap[D]? =some (.deferred (some [])))
 (c4:X.cell? ⟨b4,0,none⟩=some v) (c5:X.cell? ⟨b5,0,none⟩=some (.int .i64 c)) (hR:Kg R w (.returned (.tuple #[v,.int .i64 c])) X):bodyPostM Fence.wide n Tryz.prog Tryz.f35 (λe w'=>Kg R w e w') .ret a X:=by
 show LeavesInM Fence.wide n Tryz.prog _ a.tmps _ a.defers .returning X;rw[hd];have hg:=grownBy_putObj' X D (.deferred none);have hr:∀r,some D=some r->∃o:Obj,X.heap[r]? =some o/\o.isCells=false:=λr e=>by cases e;exact⟨_,hK,rfl⟩
 refine⟨by simp,.inl ⟨_,_,rfl,run_takeDeferred hK,?_⟩⟩;obtain⟨v',he,hB,ho⟩:=hR;simp only[Ending.returned.injEq,Value.tuple.injEq,Array.mk.injEq,List.cons.injEq,and_true,Value.int.injEq,true_and]at he;obtain⟨rfl,rfl⟩:=he;refine⟨_,row_res h4 h5 (cell_kept c4 hg hr) (cell_kept c5 hg hr),_,rfl,hB.trans (belowK_b (w:=w) (gI _) X D _ _ hwD hK rfl rfl),owns_grown ho hg hr⟩
theorem hrow_any (base h:Nat)(zs:List Nat)(H:List tr.Zn)(h0:0<zs.length)(h8:zs.length<=8)(hi:Int)(rs:Bool)(op:Int)(b3 b4 b5 b6 b7 b8:Bool)(rc:Int)(qs:List Qn)(an au ad:List Rec)(hmb:wi.jL ⟨hi,rs,op,b3,b4,b5,b6,b7,b8,rc⟩ qs an au ad=true)
 (q a u d:Value) (w:World) (hh:xE w base h zs) (hz:KI w zs H) (rq:yw w q qs) (ra:ql w a an) (ru:ql w u au) (rd:ql w d ad):
 Calls Tryz.prog 35 #[.pointer (some ⟨h,0,none⟩),yu ⟨hi,rs,op,b3,b4,b5,b6,b7,b8,rc⟩ q a u d] w λe w'=>Kg (tr.yS H op qs au) w e w':=by
 obtain⟨w1,hw1⟩:=yM (w.alloc (.cells #[.pointer (some ⟨h,0,none⟩)] 24));obtain⟨w2,hw2⟩:=yM (w1.alloc (.cells (yT ⟨hi,rs,op,b3,b4,b5,b6,b7,b8,rc⟩ q a u d).toArray 33));obtain⟨w3,hw3⟩:=yM (w2.alloc (.cells #[.slice none 0 0] 31));obtain⟨w4,hw4⟩:=yM (w3.alloc (.cells #[.int .i64 0] 3));have hB1:Below w.heap.size w w1:=by rw[hw1];exact(gJ _ _).alloc (gI _) _
 obtain⟨hB2,hs2,hm2⟩:=zG hw2;have hB3:Below w2.heap.size w2 w3:=by rw[hw3];exact(gJ _ _).alloc (gI _) _
 have hB4:Below w3.heap.size w3 w4:=by rw[hw4];exact(gJ _ _).alloc (gI _) _
 have hs1:w1.heap.size=w.heap.size+1:=by rw[hw1];simp
 have hs3:w3.heap.size=w2.heap.size+1:=by rw[hw3];simp
 have hs4:w4.heap.size=w3.heap.size+1:=by rw[hw4];simp
 obtain⟨k2,hk2⟩:=yM w.heap.size;obtain⟨km,hkm⟩:=yM (w.heap.size+1);obtain⟨k4,hk4⟩:=yM (w.heap.size+1+1);obtain⟨k5,hk5⟩:=yM (w.heap.size+1+1+1);have hB24:Below w2.heap.size w2 w4:=hB3.trans (hB4.mono (by omega));have hB14:Below w1.heap.size w1 w4:=hB2.trans (hB24.mono (by omega));have hB04:Below w.heap.size w w4:=hB1.trans (hB14.mono (by omega));rw[hs1,<- hkm]at hm2;have x2:w4.cell? ⟨k2,0,none⟩=some (.pointer (some ⟨h,0,none⟩)):=(hB14.cell (p:=⟨k2,0,none⟩) (by show k2<_;omega)).trans (by rw[hw1,hk2];exact(zC w _ _).1);have n4:w3.heap[k4]? =some (.cells #[.slice none 0 0] 31 (0,0)):=by rw[hw3,show k4=w2.heap.size by omega];exact qz rfl
 have n5:w4.heap[k5]? =some (.cells #[.int .i64 0] 3 (0,0)):=by rw[hw4,show k5=w3.heap.size by omega];exact qz rfl
 have n4':=(hB4.block k4 (qA n4)).trans n4;have zk:=qe (show ∀X,Below w4.heap.size w4 X->X.cell? ⟨k2,0,none⟩=some (.pointer (some ⟨h,0,none⟩))/\X.cell? ⟨k4,0,none⟩=some (.slice none 0 0)/\X.frozen? ⟨k4,0,none⟩=false/\X.cell? ⟨k5,0,none⟩=some (.int .i64 0)/\X.frozen? ⟨k5,0,none⟩=false from λX hX=>
  ⟨(hX.cell (p:=⟨k2,0,none⟩) (by show k2<_;omega)).trans x2,by rw[qg ((hX.block k4 (qA n4')).trans n4')];rfl,qB ((hX.block k4 (qA n4')).trans n4') 0,by rw[qg ((hX.block k5 (qA n5)).trans n5)];rfl,qB ((hX.block k5 (qA n5)).trans n5) 0⟩)
 have hW4:w4=(((w.alloc (.cells #[.pointer (some ⟨h,0,none⟩)] 24)).alloc (.cells (yT ⟨hi,rs,op,b3,b4,b5,b6,b7,b8,rc⟩ q a u d).toArray 33)).alloc (.cells #[.slice none 0 0] 31)).alloc (.cells #[.int .i64 0] 3):=by rw[hw4,hw3,hw2,hw1]
 have HM:=qe (show qi w4 km _ _ _ _ _ from hm2.below hB24);have Kv:=qe (show w.heap.size<=k4/\k4<w4.heap.size by omega);have Ku:=qe (show w.heap.size<=k5/\k5<w4.heap.size by omega);have hne:k4≠k5:=by omega
 have hne':k5≠k4:=by omega
 have HNE:=qe hne;have HK2:=qe hk2;have HKM:=qe hkm;have HK4:=qe hk4;have HK5:=qe hk5;have HW4:=qe hW4;have jE:=qe hB04;clear hw1 hw2 hw3 hw4 hB1 hB2 hB3 hB4 hB24 hB14 hB04 hs1 hs2 hs3 hs4 hm2 x2 n4 n5 n4' hk2 hkm hk4 hk5 hW4;obtain⟨n,hn⟩:=yM zs.length;obtain⟨n1,hn1⟩:=yM (n-1);have hlen:=hz.1
 have hOK:∀i (hi:i<zs.length),tr.Ok (tr.zh H i)/\∃tz,jB w tz zs[i] (tr.zh H i).ap (tr.zh H i).l:=λi hi=>by
  have hiH:i<H.length:=by omega
  rw[tr.Qd hiH];exact hz.2 i hi hiH
 have hlast:tr.qR H=tr.zh H n1:=by unfold tr.qR;congr 1;omega
 obtain⟨Z,hZ⟩:=yM (tr.zh H n1);rw[<- hZ]at hlast;obtain⟨z0,hz0⟩:=yM (zs[n1]'(by omega));obtain⟨ok0,tz,zf0⟩:=hOK n1 (by omega);rw[<- hZ,<- hz0]at zf0;rw[<- hZ]at ok0;obtain⟨mq,mu⟩:=tr.msg_facts hmb
 have HZN:=qe (show ∀X,Below w.heap.size w X->Calls Tryz.prog 31 #[.pointer (some ⟨h,0,none⟩)] X λe w'=>e= .returned (qX z0)/\Below X.heap.size X w' from λX hX=>by
  have h1:=Q3 base h zs (by omega) (by omega) X (hh.below hX);have e:zs[zs.length-1]'(by omega)=z0:=by rw[hz0];congr 1;omega
  rw[e]at h1;exact h1)
 have HAP:=qe (show ∀X,Below w.heap.size w X->Calls Tryz.prog 24 #[qX z0] X λe w'=>e= .returned (.string Z.ap)/\Below X.heap.size X w' from λX hX=>by
  obtain⟨_,_,_,_,_,_,_,h2,_⟩:=(zf0.kept hX).v.parts;refine(uH z0 Z.ap _ _ _ X h2).mono ?_;rintro e w' ⟨rfl,rfl⟩;exact⟨rfl,gJ _ _⟩)
 have HSR:=qe (show ∀X,Below w.heap.size w X->Calls Tryz.prog 61 #[qX z0] X λe w'=>e= .returned (.int .i64 (tr.yD Z))/\Below X.heap.size X w' from λX hX=>J2 tz z0 Z ok0 X (zf0.kept hX))
 have HSA:=qe (show ∀i (hi:i<zs.length),∀X,Below w.heap.size w X->Calls Tryz.prog 61 #[qX zs[i]] X λe w'=>e= .returned (.int .i64 (tr.yD (tr.zh H i)))/\Below X.heap.size X w' from λi hi X hX=>by
  obtain⟨o1,t1,z1⟩:=hOK i hi;exact J2 t1 zs[i] _ o1 X (z1.kept hX))
 have HWH:=qe (show ∀X,Below w.heap.size w X->Calls Tryz.prog 67 #[qX z0] X λe w'=>jk (tr.yK Z) X e w' from λX hX=>twhole_any tz z0 Z ok0 X (zf0.kept hX));have HST:=qe (show ∀k,k<zs.length->∀X,Below w.heap.size w X->Calls Tryz.prog 70 #[.pointer (some ⟨h,0,none⟩),.int .i64 (k:Int)] X λe w'=>jk (tr.yY H k) X e w' from λk hk X hX=>steps_any base h zs H h8 k hk X (hh.below hX) (hz.below hX));have HSO:=qe (show ∀X,Below w.heap.size w X->Calls Tryz.prog 48 #[qX z0] X λe w'=>e= .returned (yf (tr.qZ Z))/\Below X.heap.size X w' from λX hX=>YO tz z0 Z ok0 X (zf0.kept hX));have HH:=qe hh;have YJ:=qe hlast;have HN:=qe hn;have H8:=qe h8;have H00:=qe h0;have HLN:=qe hlen;have HQ:=qe (rq.below jE.out);have HU:=qe (ru.below jE.out);have HMQ:=qe mq;have HMU:=qe mu;obtain⟨qa,qc,rfl,-⟩:=id rq;obtain⟨aa,ac,rfl,-⟩:=id ra;obtain⟨ua,uc,rfl,-⟩:=id ru;obtain⟨da,dc,rfl,-⟩:=id rd;clear hn hn1 hlen hOK hlast hZ hz0 ok0 zf0 hh hz rq ra ru rd mq mu hmb h0 h8;obtain⟨m0,m1,m2,m3,m4,m5,m6,m7,m8,m9,m10,m11,m12,m13⟩:=(HM.out.below (gJ _ _)).facts;obtain⟨y2,y4,f4,y5,f5⟩:=zk.out _ (gJ _ _);refine(callsIn_wide (n:=9)).1 ?_;refine callsIn_of_wp_marks Tryz.func35 rfl trivial ?_ rfl;refine wpIn_wide.2 ?_;simp only[Tryz.ntmps35,List.size_toArray,Ha,List.length_nil,Nat.reduceAdd,Nat.reduceSub,Array.replicate_succ,Array.replicate_zero,List.push_toArray,List.append_toArray,List.nil_append,List.cons_append];go_upto_region 1 with fail;rw[<- HK5.out,<- HK4.out,<- HKM.out,<- HK2.out,<- HW4.out];have HRF:=qe (gJ w4.heap.size w4);by_cases hq1:qs.length=1
 ·have e4:((qs.length:Int) != 1)=false:=by rw[Hy];omega
  obtain⟨_,_,hv,-,hr0⟩:=id HQ.out;simp only[gL,true_and]at hv;obtain⟨rfl,rfl⟩:=hv;obtain⟨qb,Qm,rfl,hqb,c0,c1,c2⟩:=hr0 0 (by omega);obtain⟨q0,hq0⟩:=yM (qs[0]'(by omega));rw[<- hq0]at c0 c1 c2;simp only[Nat.zero_mul,Nat.add_zero]at c0 c1 c2;have hqs:qs= [q0]:=by
   obtain⟨y,hy⟩:=List.length_eq_one_iff.1 hq1;have:q0=y:=by rw[hq0];simp[hy]
   rw[this,hy]
  have hl0:0<qs.length:=by omega
  obtain⟨w5,hw5⟩:=yM (w4.alloc (.cells (qnC q0).toArray 78));obtain⟨hB5,hs5,hx5⟩:=YS w4 w5 q0 hw5;obtain⟨bq,hbq⟩:=yM w4.heap.size;rw[<- hbq]at hx5;have HQS:=qe hqs;have HW5:=qe hw5;have HBQ:=qe hbq;have HX5:=qe hx5;have HB5:=qe hB5;have HBQL:=qe (show bq<w5.heap.size by omega);clear hr0 hqb hq0 hqs hq1 hw5 hB5 hs5 hbq hx5;go_upto_region 4 with fail;rw[<- HW5.out,<- HBQ.out];clear c0 c1 c2 hl0 e4;clear m0 m1 m2 m3 m4 m5 m6 m7 m8 m9 m10 m11 m12 m13 y2 y4 f4 y5 f5;obtain⟨m0,m1,m2,m3,m4,m5,m6,m7,m8,m9,m10,m11,m12,m13⟩:=(HM.out.below HB5.out).facts;obtain⟨y2,y4,f4,y5,f5⟩:=zk.out _ HB5.out;have Jb:=qe (gm jE.out HB5.out);obtain⟨x0,x1,x2⟩:=id HX5.out;simp only[Nat.zero_add]at x1 x2;by_cases ho:op=0
  ·have e3:(op != 0)=false:=by rw[Hy];exact ho
   have HOP:=qe ho;clear ho;obtain⟨ib,hib⟩:=yM (qG q0.name Z.ap);have CE:Hid (∀p,Calls Tryz.prog 62 #[.string q0.name,.string Z.ap] (gw w5 p) λe w''=>e= .returned (.bool ib)/\∃p',w''=gw w5 p'):=qe λp=>by rw[hib];exact qY (Q5 q0.name Z.ap _)
   have CZ:Hid (∀p,Calls Tryz.prog 31 #[.pointer (some ⟨h,0,none⟩)] (gw w5 p) λe w''=>e= .returned (qX z0)/\∃p',w''=gw w5 p'):=qe λp=>qY (HZN.out _ (Jb.out.trans ((qD w5 p).mono Jb.out.size)));have CA:Hid (∀p,Calls Tryz.prog 24 #[qX z0] (gw w5 p) λe w''=>e= .returned (.string Z.ap)/\∃p',w''=gw w5 p'):=qe λp=>qY (HAP.out _ (Jb.out.trans ((qD w5 p).mono Jb.out.size)));have HIB:=qe hib;have k0:=qh y2;have k1:=qh x0;have k2':=qh x2;clear hib;by_cases kc:q0.cls=1
   ·have e6:(q0.cls != 1)=false:=by rw[Hy];exact kc
    go_upto_region 6 with fail;clear e3;refine qp (by kernel_rfl) (by kernel_rfl) ?_
    repeat (with_reducible refine Hu (λK hK=>?_);go_simp;(try simp only[undef]);first | (with_reducible refine hK _ ?_;clear hK K) | (apply gW;refine⟨λ_=>?_,hK _ ?_⟩;(first | (go_at_call 31;with_reducible exact CZ.out _) | (go_at_call 24;with_reducible exact CA.out _) | (go_at_call 62;with_reducible exact CE.out _));clear hK K) | (with_reducible refine⟨λ_ h=>(by cases h),?_⟩;with_reducible refine hK _ ?_;clear hK K))
    refine Hw ?_
    (try simp only[show Value.tuple #[]=undef from rfl])
    intro U hU;have hBU:Below w5.heap.size w5 U:=by obtain⟨g,rfl⟩:=hU;exact qD _ g
    clear hU;have HB6:=qe (gm HB5.out hBU);have HU5:=qe hBU;clear hBU k0 k1 k2' e6;clear m0 m1 m2 m3 m4 m5 m6 m7 m8 m9 m10 m11 m12 m13 y2 y4 f4 y5 f5;obtain⟨m0,m1,m2,m3,m4,m5,m6,m7,m8,m9,m10,m11,m12,m13⟩:=(HM.out.below HB6.out).facts;obtain⟨y2,y4,f4,y5,f5⟩:=zk.out _ HB6.out
    cases ib
    ·have HRW:=qe (show tr.yS H op qs au=([],9) from(by rw[HQS.out];exact tr.row_not HOP.out (by rw[YJ.out,<- HIB.out];simp)));have HY4:=qe y4;have HY5:=qe y5;go_wp2_with fail
     (try simp only[Exit.inBlock,Exit.then])
     exact kW rfl rfl rfl HNE.out HY4.out HY5.out (yV HRW.out Kv.out Ku.out jE.out.size (gm jE.out HB6.out) (gZ _ _ _ _))
    ·have HC:=qe (show q0.cls=1/\qG q0.name (tr.qR H).ap=true from⟨kc,by rw[YJ.out];exact HIB.out.symm⟩);have Vh:=qe (gm jE.out HB6.out);clear kc;obtain⟨x0,x1,x2⟩:=HX5.out.keep (HU5.out.block bq HBQL.out);simp only[Nat.zero_add]at x1 x2;by_cases Kl:q0.typ=252
     ·have e7:(q0.typ == 252)=true:=by rw[Hz];exact Kl
      have HRW:=qe (show tr.yS H op qs au=(tr.yK Z,0) by rw[HQS.out,tr.row_whole HOP.out HC.out Kl,YJ.out]);clear Kl;go_wp2_with fail;refine(HZN.out U Vh.out).mono ?_;rintro e w7 ⟨rfl,hB7⟩;have HB7:=qe (gm HB6.out hB7);have HB17:=qe (gm Vh.out hB7);clear hB7;go_wp2_with fail;refine(HWH.out w7 HB17.out).mono ?_;rintro e w8 ⟨v8,rfl,hBw8,hOw8⟩;obtain⟨aw8,cw8,rfl,-⟩:=qj hOw8;have HOw8:=qe (qK hOw8 (Below.size HB7.out));have HBw8:=qe (Below.trans HB7.out (hBw8.mono (Below.size HB7.out)));clear hOw8 hBw8;clear m0 m1 m2 m3 m4 m5 m6 m7 m8 m9 m10 m11 m12 m13 y2 y4 f4 y5 f5;obtain⟨m0,m1,m2,m3,m4,m5,m6,m7,m8,m9,m10,m11,m12,m13⟩:=(HM.out.below HBw8.out).facts;obtain⟨y2,y4,f4,y5,f5⟩:=zk.out _ HBw8.out;have HY4:=qe y4;have HY5:=qe y5;go_wp2_with fail
      (try simp only[Exit.inBlock,Exit.then])
      exact kW rfl rfl rfl HNE.out HY4.out HY5.out (yV HRW.out Kv.out Ku.out jE.out.size (gm jE.out HBw8.out) HOw8.out)
     ·have e7:(q0.typ == 252)=false:=by rw[gG];exact Kl
      by_cases k251:q0.typ=251
      ·have e8:(q0.typ != 251)=false:=by rw[Hy];exact k251
       have HK:=qe k251;clear Kl k251;by_cases hu1:au.length=1
       ·have e9:((au.length:Int) != 1)=false:=by rw[Hy];omega
        obtain⟨_,_,hv,-,hr0⟩:=HU.out.below HB6.out;simp only[gL,true_and]at hv;obtain⟨rfl,rfl⟩:=hv;obtain⟨ub,Yc,rfl,hub,c0,c1,c2,c3,c4⟩:=hr0 0 (by omega);obtain⟨r0,hr0'⟩:=yM (au[0]'(by omega));rw[<- hr0']at c0 c1 c2 c3 c4;simp only[Nat.zero_mul,Nat.add_zero]at c0 c1 c2 c3 c4;have hau:au= [r0]:=by
         obtain⟨y,hy⟩:=List.length_eq_one_iff.1 hu1;have:r0=y:=by rw[hr0'];simp[hy]
         rw[this,hy]
        have hl0:0<au.length:=by omega
        have HAU:=qe hau;clear hr0 hub hr0' hau hu1;by_cases k6:r0.typ=6
        ·have e10:(r0.typ != 6)=false:=by rw[Hy];exact k6
         by_cases kd:r0.data.size=0
         ·have e11:=yR kd;have HRW0:=qe (show tr.yS H op qs au=([],1) by rw[HQS.out,HAU.out];exact tr.row_bad HOP.out HC.out HK.out (.inr kd));clear kd k6;have HRW:=qe (show tr.yS H op qs au=([],1) from HRW0.out);have HY4:=qe y4;have HY5:=qe y5;go_wp2_with fail
          (try simp only[Exit.inBlock,Exit.then])
          exact kW rfl rfl rfl HNE.out HY4.out HY5.out (yV HRW.out Kv.out Ku.out jE.out.size (gm jE.out HB6.out) (gZ _ _ _ _))
         ·have e11:=jq kd;have HDS:=qe ((HMU.out r0 (by rw[HAU.out];simp)).2 k6 kd);have HRW:=qe (show tr.yS H op qs au=tr.Vw H (up.QQ r0.data) by rw[HQS.out,HAU.out];exact tr.row_step HOP.out HC.out HK.out k6 kd);clear kd k6;go_upto_region 14 with fail;clear e7 e8 e9 e10 e11 x0 x1 x2;obtain⟨sn,hsn⟩:=yM (up.QQ r0.data);have HSN:=qe (VZ r0 HDS.out.1 (by have:=HDS.out.2;omega) U);rw[<- hsn]at HSN HRW;clear hsn;go_wp2_with fail;refine HSN.out.mono ?_;rintro e w7 ⟨rfl,hB7⟩;have HB7:=qe (gm HB6.out hB7);have HB17:=qe (gm Vh.out hB7);clear hB7 c0 c1 c2 c3 c4 hl0;clear m0 m1 m2 m3 m4 m5 m6 m7 m8 m9 m10 m11 m12 m13 y2 y4 f4 y5 f5;obtain⟨w8,hw8⟩:=yM (w7.alloc (.cells #[.int .i64 sn] 3));obtain⟨k7,hk7⟩:=yM w7.heap.size;have hB78:Below w7.heap.size w7 w8:=by rw[hw8];exact(gJ _ _).alloc (gI _) _
          have hn7:w8.heap[k7]? =some (.cells #[.int .i64 sn] 3 (0,0)):=by rw[hw8,hk7];exact qz rfl
          have HC7:=qe (show ∀X,Below w8.heap.size w8 X->X.cell? ⟨k7,0,none⟩=some (.int .i64 sn) from λX hX=>by rw[qg ((hX.block k7 (qA hn7)).trans hn7)];rfl);have HB8:=qe (gm HB7.out hB78);have HB18:=qe (gm HB17.out hB78);have HW8:=qe hw8;have HK7:=qe hk7;clear hw8 hk7 hB78 hn7;go_upto_region 15 with fail;rw[<- HW8.out,<- HK7.out];obtain⟨m0,m1,m2,m3,m4,m5,m6,m7,m8,m9,m10,m11,m12,m13⟩:=(HM.out.below HB8.out).facts;obtain⟨y2,y4,f4,y5,f5⟩:=zk.out _ HB8.out;have x7:=HC7.out w8 (gJ _ _);obtain⟨nb,hnb⟩:=yM (tr.zU (tr.yD Z) sn);have CZ:Hid (∀p,Calls Tryz.prog 31 #[.pointer (some ⟨h,0,none⟩)] (gw w8 p) λe w''=>e= .returned (qX z0)/\∃p',w''=gw w8 p'):=qe λp=>qY (HZN.out _ (HB18.out.trans ((qD w8 p).mono HB18.out.size)));have CS:Hid (∀p,Calls Tryz.prog 61 #[qX z0] (gw w8 p) λe w''=>e= .returned (.int .i64 (tr.yD Z))/\∃p',w''=gw w8 p'):=qe λp=>qY (HSR.out _ (HB18.out.trans ((qD w8 p).mono HB18.out.size)));have CN:Hid (∀p,Calls Tryz.prog 8 #[.int .i64 (tr.yD Z),.int .i64 sn] (gw w8 p) λe w''=>e= .returned (.bool nb)/\∃p',w''=gw w8 p'):=qe λp=>qY ((VE (tr.yD Z) sn _).mono λe w' h=>⟨by rw[hnb];exact h.1,by rw[h.2];exact gJ _ _⟩);have HNB:=qe hnb;have k0:=qh y2;have k1:=qh x7;clear hnb;refine qp (by kernel_rfl) (by kernel_rfl) ?_
          repeat (with_reducible refine Hu (λK hK=>?_);go_simp;(try simp only[undef]);first | (with_reducible refine hK _ ?_;clear hK K) | (apply gW;refine⟨λ_=>?_,hK _ ?_⟩;(first | (go_at_call 31;with_reducible exact CZ.out _) | (go_at_call 61;with_reducible exact CS.out _) | (go_at_call 8;with_reducible exact CN.out _));clear hK K) | (with_reducible refine⟨λ_ h=>(by cases h),?_⟩;with_reducible refine hK _ ?_;clear hK K))
          refine Hw ?_
          (try simp only[show Value.tuple #[]=undef from rfl])
          intro V hV;have hBV:Below w8.heap.size w8 V:=by obtain⟨g,rfl⟩:=hV;exact qD _ g
          clear hV;have HB9:=qe (gm HB8.out hBV);have HB19:=qe (gm HB18.out hBV);have HV8:=qe hBV;clear hBV k0 k1 x7;clear m0 m1 m2 m3 m4 m5 m6 m7 m8 m9 m10 m11 m12 m13 y2 y4 f4 y5 f5;obtain⟨m0,m1,m2,m3,m4,m5,m6,m7,m8,m9,m10,m11,m12,m13⟩:=(HM.out.below HB9.out).facts;obtain⟨y2,y4,f4,y5,f5⟩:=zk.out _ HB9.out
          cases nb
          ·have HRS:=qe (show tr.yS H op qs au=([tr.qZ Z],0) by rw[HRW.out];unfold tr.Vw;rw[YJ.out,if_pos HNB.out.symm]);obtain⟨r,hr⟩:=yM (tr.qZ Z);rw[<- hr]at HSO HRS;clear hr;go_wp2_with fail;refine(HZN.out V HB19.out).mono ?_;rintro e w10 ⟨rfl,vZ⟩;have yt:=qe (gm HB9.out vZ);have HB110:=qe (gm HB19.out vZ);clear vZ;go_wp2_with fail;refine(HSO.out w10 HB110.out).mono ?_;rintro e w11 ⟨rfl,ZQ⟩;have JU:=qe (gm yt.out ZQ);have HB111:=qe (gm HB110.out ZQ);clear ZQ;obtain⟨w12,hw12⟩:=yM (w11.alloc (.cells (recC r).toArray 80));obtain⟨hBn,-,-⟩:=zf w11 w12 r hw12;have hB12:=gm JU.out hBn;have hon:=kL (base:=w4.heap.size) r hw12 JU.out.size;clear m0 m1 m2 m3 m4 m5 m6 m7 m8 m9 m10 m11 m12 m13 y2 y4 f4 y5 f5;obtain⟨-,y4,f4,y5,f5⟩:=zk.out _ hB12;have HY4:=qe y4;have HY5:=qe y5;have HF:=qe (yV HRS.out Kv.out Ku.out jE.out.size (gm jE.out hB12) hon);rw[hw12]at y4 f4 y5 f5 HY4 HY5 HF;clear hw12 hBn hB12 hon;go_wp2_with fail
           (try simp only[Exit.inBlock,Exit.then])
           exact kW rfl rfl rfl HNE.out HY4.out HY5.out HF.out
          ·have HRS:=qe (show tr.yS H op qs au=if 0<=tr.frI H sn n/\(tr.yY H (tr.frI H sn n).toNat).length<=(tr.yK Z).length then(tr.yY H (tr.frI H sn n).toNat,0) else(tr.yK Z,0) by
            rw[HRW.out];unfold tr.Vw;rw[YJ.out,if_neg (by rw[<- HNB.out];simp),<- HLN.out,<- HN.out])
           clear HRW;go_wp2_with fail;refine(HZN.out V HB19.out).mono ?_;rintro e w10 ⟨rfl,vZ⟩;have yt:=qe (gm HB9.out vZ);have HB110:=qe (gm HB19.out vZ);have HV10:=qe (gm HV8.out vZ);clear vZ;go_wp2_with fail;refine(HWH.out w10 HB110.out).mono ?_;rintro e w11 ⟨v11,rfl,ZQ,hO11⟩;have JU:=qe (gm yt.out ZQ);have HO11:=qe (qK hO11 yt.out.size);have HV11:=qe (gm HV10.out ZQ);obtain⟨W,hW⟩:=yM (tr.yK Z);rw[<- hW]at HO11 HRS hO11;obtain⟨a11,c11,rfl,-⟩:=qj hO11;obtain⟨w12,hw12⟩:=yM (w11.alloc (.cells #[.slice a11 W.length c11] 31));obtain⟨k8,hk8⟩:=yM w11.heap.size;have hB12:Below w11.heap.size w11 w12:=by rw[hw12];exact(gJ _ _).alloc (gI _) _
           have hn8:w12.heap[k8]? =some (.cells #[.slice a11 W.length c11] 31 (0,0)):=by rw[hw12,hk8];exact qz rfl
           have ZZ:=qe (gm JU.out hB12);have HB112:=qe (gm jE.out ZZ.out);have HO12:=qe (ownsRow_below HO11.out hB12);have HC8:=qe (show ∀X,Below w12.heap.size w12 X->X.cell? ⟨k8,0,none⟩=some (.slice a11 W.length c11) from λX hX=>by rw[qg ((hX.block k8 (qA hn8)).trans hn8)];rfl);have HV12:=qe (gm HV11.out hB12);have HW12:=qe hw12;have HK8:=qe hk8;obtain⟨g,cap,hgl,hcap,hc0,hcz⟩:=(HH.out.below HB112.out).cells;clear m0 m1 m2 m3 m4 m5 m6 m7 m8 m9 m10 m11 m12 m13 y2 y4 f4 y5 f5;clear ZQ hO11 hW hw12 hk8 hB12 hn8;go_upto_region 18 with fail;rw[<- HW12.out,<- HK8.out];obtain⟨y2,-,-,-,-⟩:=zk.out _ ZZ.out;go_wp2_with fail;refine(back_any _ _ _ _).mono ?_;rintro e w13 ⟨rfl,hw13⟩;obtain⟨kB,hkB⟩:=yM w12.heap.size;have hB13:Below w12.heap.size w12 w13:=by rw[hw13];exact(gJ _ _).alloc (gI _) _
           have hnB:w13.heap[kB]? =some (.cells #[.slice (some ⟨g,0,none⟩) zs.length cap] 118 (0,0)):=by rw[hw13,hkB];exact qz rfl
           have cB:w13.cell? ⟨kB,0,none⟩=some (.slice (some ⟨g,0,none⟩) zs.length cap):=by rw[qg hnB];rfl
           have hBl:kB<w13.heap.size:=qA hnB;have hgl13:g<w13.heap.size:=gN hgl hB13.size;have hcz13:∀k (hk:k<zs.length),w13.cell? ⟨g,k,none⟩=some (qX zs[k]):=λk hk=>(hB13.cell (p:=⟨g,k,none⟩) hgl).trans (hcz k hk);have QH:=qe (gm ZZ.out hB13);have HB113:=qe (gm jE.out QH.out);have HV13:=qe (gm HV12.out hB13);have HX13:=qe hB13;have HO13:=qe (ownsRow_below HO12.out hB13);have HAL:=qe (show ∀Y,Below w13.heap.size w13 Y->Below w.heap.size w Y/\Below w4.heap.size w4 Y/\Y.cell? ⟨k7,0,none⟩=some (.int .i64 sn)/\Y.cell? ⟨k8,0,none⟩=some (.slice a11 W.length c11)/\Y.ownsRow w4.heap.size 80 5 (.slice a11 W.length c11) W.length (qw W) from λY hY=>
            ⟨HB113.out.trans (hY.mono HB113.out.size),QH.out.trans (hY.mono QH.out.size),HC7.out Y (gm HV13.out hY),HC8.out Y (gm HX13.out hY),ownsRow_below HO13.out hY⟩)
           rw[<- hkB];clear hw13 hkB hB13 hnB hgl hc0 hcz y2 HC7 HC8 HV13 HX13 HO13;go_wp2_with fail;refine(wpIn_wide (n:=9)).1 ?_
           refine wpIn_rangeFunc_ownF rfl (by omega) (gf:=105) (lb:=#[.pointer (some ⟨kB,0,none⟩)]) rfl trivial (enters_of Tryz.func105 (by kernel_rfl) rfl)
            (back_stops Fence.wide (9-1) trivial rfl (by omega) kB g cap zs (by have:=H8.out;omega) w13 hBl hgl13 cB hcz13) (λh1 h2=>⟨uD h1.1 h2.1,uD h1.2 h2.2⟩) (λW l o o' hl h1 h2 h3=>⟨uE hBl W l o o' hl h1 h2 h3,uE hgl13 W l o o' hl h1 h2 h3⟩) (gJ _ _) (λ_=>rfl)
            (λpre X=>(∀p∈pre,tr.yD (tr.zh H p.1)≠sn)/\Below w13.heap.size w13 X)
            (λc pre X=>RowEx w w13 k4 k5 zs H sn W.length c pre X)
            (OwnFrom.and (Own.from (λs A B row hs hg hr=>hs) _) (ownFrom_below (gI _) (gI _)))
            (λc=>rowEx_own HB113.out.size)
            ⟨λp hp=>absurd hp (by simp),gJ _ _⟩ ?a1 ?assign ?body ?done ?stop
           case assign=>
            intro l x X K hK;have HKK:=qe hK;clear hK
            gi_wp2
            exact HKK.out
           case body=>
            rintro l pre x X ⟨hp,hB⟩ hlen;obtain⟨xk,hxk⟩:=x;have HP:=qe hp;have HBX:=qe hB;clear hp hB hlen;have c7:=(HAL.out X HBX.out).2.2.1;have hf1:Fence.wide.fn 61:=trivial;have hf2:Fence.wide.fn 70:=trivial
            gi_wp2
            gi_region_with (gi_at_call 61;(with_reducible refine(ZT (HSA.out xk hxk _ (HAL.out X HBX.out).1.drew)).mono ?_);rintro e wS ⟨rfl,hbS⟩;have hS:=Below.trans (B:=X.heap.size) (a:=X) (gJ _ _).drew (hbS.mono (gI _));have c7S:=(HAL.out wS (gm HBX.out hS)).2.2.1)
            all_goals
             have HS:=qe hS;have HB13S:=qe (gm HBX.out hS);clear hS hbS c7 c7S;by_cases he:tr.yD (tr.zh H xk)=sn
             ·have e1:(tr.yD (tr.zh H xk) == sn)=true:=by rw[Hz];exact he
              have HE:=qe he;clear he;have y2:=(zk.out wS (HAL.out wS HB13S.out).2.1).1
              gi_wp2_with fail
              refine(ZT (HST.out xk hxk wS (HAL.out wS HB13S.out).1)).mono ?_;rintro e wT ⟨vT,rfl,hBT,hOT⟩;obtain⟨aT,cT,rfl,-⟩:=qj hOT;have HB13T:=qe (gm HB13S.out hBT);have HT:=qe (gm HS.out hBT);have HOT:=qe hOT;clear hBT hOT y2;obtain⟨T,hT⟩:=yM (tr.yY H xk);rw[<- hT]at HOT ⊢;have HTE:=qe hT;clear hT;have x8:=(HAL.out wT HB13T.out).2.2.2.1;obtain⟨-,y4,f4,y5,f5⟩:=zk.out wT (HAL.out wT HB13T.out).2.1;have HY4:=qe y4;have HY5:=qe y5;by_cases hc:T.length<=W.length
              ·have e2:decide ((T.length:Int)<=(W.length:Int))=true:=gF (by omega);have HC:=qe hc;clear hc
               gi_wp2
               refine⟨((uj HT.out).trans (KeepsOthers.setCell _ _ _)).trans (KeepsOthers.setCell _ _ _),pre,⟨xk,hxk⟩,rfl,HE.out,HP.out,.inl ⟨rfl,by rw[<- HTE.out];exact HC.out,?_,_,(Zx HNE.out HY4.out HY5.out).1,(Zx HNE.out HY4.out HY5.out).2,?_⟩⟩
               ·exact(((HAL.out wT HB13T.out).1).setCell (p:=⟨k4,0,none⟩) Kv.out.1 _).setCell (p:=⟨k5,0,none⟩) Ku.out.1 _
               ·rw[<- HTE.out];refine qK (qm HOT.out λb hb=>?_) HB13S.out.size;have h1:=(HOT.out.lt b hb).1;have h2:=HB13S.out.size;have h3:=QH.out.size;have h4:=Kv.out.2;have h5:=Ku.out.2;rw[gP _ _ _ _ (show b≠k5 by omega),gP _ _ _ _ (show b≠k4 by omega)]
              ·have e2:decide ((T.length:Int)<=(W.length:Int))=false:=gp (by omega);have HC:=qe hc;clear hc
               gi_wp2
               exact⟨uj HT.out,pre,⟨xk,hxk⟩,rfl,HE.out,HP.out,.inr ⟨rfl,by rw[<- HTE.out];exact HC.out,HB13T.out⟩⟩
             ·have e1:(tr.yD (tr.zh H xk) == sn)=false:=by rw[gG];exact he
              have HE:=qe he;clear he
              gi_wp2
              exact⟨uj HS.out,⟨HS.out.block kB (gN hBl HBX.out.size),HS.out.block g (gN hgl13 HBX.out.size)⟩,λp hp=>(List.mem_append.1 hp).elim (HP.out p) (λh=>by rw[List.mem_singleton.1 h];exact HE.out),HB13S.out⟩
           case done=>
            rintro D xs X hD hS ⟨hp,hB⟩ hK;have HRT:=qe (show tr.yS H op qs au=(W,0) by
             have h1:tr.frI H sn n= -1:=tr.fr_none _ λi hi=>by
              have h2:i∈xs.map (·.1):=by rw[hS];exact tr.mem_bk.2 ⟨gU _,by rw[<- HN.out];exact hi⟩
              obtain⟨p,hp1,rfl⟩:=List.mem_map.1 h2;exact hp p hp1
             rw[HRS.out,h1,if_neg (by simp)])
            have HBX:=qe hB;have HD:=qe hD;have HK:=qe hK;clear hS hp hB hD hK;obtain⟨-,y4,f4,y5,f5⟩:=zk.out X (HAL.out X HBX.out).2.1;have HY4:=qe y4;have HY5:=qe y5;have x8:=(HAL.out X HBX.out).2.2.2.1;have HF:=qe (yV HRT.out Kv.out Ku.out jE.out.size (HAL.out X HBX.out).1 (HAL.out X HBX.out).2.2.2.2);go_wp2_with fail;exact KT rfl rfl rfl (gQ HB113.out.size HD.out) (by rw[gP _ _ _ _ (show D≠k5 by have:=HD.out;have:=Ku.out.2;have:=QH.out.size;omega),gP _ _ _ _ (show D≠k4 by have:=HD.out;have:=Kv.out.2;have:=QH.out.size;omega)];exact HK.out) (Zx HNE.out HY4.out HY5.out).1 (Zx HNE.out HY4.out HY5.out).2 HF.out
           case stop=>
            rintro D c pre X hD hpre ⟨pre0,x,rfl,hx,hp,hc⟩ hK;rw[List.map_append,List.map_singleton]at hpre;obtain⟨hp0,hxl⟩:=tr.bk_last hpre
            have hfr:tr.frI H sn n=((x.1:Nat):Int):=tr.fr_at hx _ (by rw[HN.out];exact x.2) λi h1 h2=>by
             have h3:i∈pre0.map (·.1):=by rw[hp0];exact tr.mem_bk.2 ⟨h1,by rw[<- HN.out];exact h2⟩
             obtain⟨p,hp1,rfl⟩:=List.mem_map.1 h3;exact hp p hp1
            rcases hc with⟨rfl,hl,hB,v,c4,c5,ho⟩|⟨rfl,hl,hB⟩
            ·have HRT:=qe (show tr.yS H op qs au=(tr.yY H x.1,0) by
              rw[HRS.out,hfr,Int.toNat_natCast,if_pos ⟨by omega,hl⟩])
             have HF:=qe (rowPost_some HRT.out hB (qK ho HB113.out.size));have HD:=qe hD;have HK:=qe hK;have HC4:=qe c4;have HC5:=qe c5;clear hpre hp0 hfr hp hx hl hB ho hD hK c4 c5 HRS;refine(wpIn_wide (n:=9)).2 ?_;go_wp2_with fail;exact KT rfl rfl rfl (gQ HB113.out.size HD.out) HK.out HC4.out HC5.out HF.out
            ·have HRT:=qe (show tr.yS H op qs au=(W,0) by
              rw[HRS.out,hfr,Int.toNat_natCast,if_neg (λh=>hl h.2)])
             have HBX:=qe hB;have HD:=qe hD;have HK:=qe hK;clear hpre hp0 hfr hp hx hl hB hD hK HRS;refine(wpIn_wide (n:=9)).2 ?_;obtain⟨-,y4,f4,y5,f5⟩:=zk.out X (HAL.out X HBX.out).2.1;have HY4:=qe y4;have HY5:=qe y5;have x8:=(HAL.out X HBX.out).2.2.2.1;have HF:=qe (yV HRT.out Kv.out Ku.out jE.out.size (HAL.out X HBX.out).1 (HAL.out X HBX.out).2.2.2.2);go_wp2_with fail;exact KT rfl rfl rfl (gQ HB113.out.size HD.out) (by rw[gP _ _ _ _ (show D≠k5 by have:=HD.out;have:=Ku.out.2;have:=QH.out.size;omega),gP _ _ _ _ (show D≠k4 by have:=HD.out;have:=Kv.out.2;have:=QH.out.size;omega)];exact HK.out) (Zx HNE.out HY4.out HY5.out).1 (Zx HNE.out HY4.out HY5.out).2 HF.out
        ·have e10:(r0.typ != 6)=true:=by rw[bne_iff_ne];exact k6
         have HRW0:=qe (show tr.yS H op qs au=([],1) by rw[HQS.out,HAU.out];exact tr.row_bad HOP.out HC.out HK.out (.inl k6));clear k6;have HRW:=qe (show tr.yS H op qs au=([],1) from HRW0.out);have HY4:=qe y4;have HY5:=qe y5;go_wp2_with fail
         (try simp only[Exit.inBlock,Exit.then])
         exact kW rfl rfl rfl HNE.out HY4.out HY5.out (yV HRW.out Kv.out Ku.out jE.out.size (gm jE.out HB6.out) (gZ _ _ _ _))
       ·have e9:((au.length:Int) != 1)=true:=by rw[bne_iff_ne];omega
        have HRW0:=qe (show tr.yS H op qs au=([],1) by rw[HQS.out];exact tr.row_auth HOP.out HC.out HK.out hu1);clear hu1;have HRW:=qe (show tr.yS H op qs au=([],1) from HRW0.out);have HY4:=qe y4;have HY5:=qe y5;go_wp2_with fail
        (try simp only[Exit.inBlock,Exit.then])
        exact kW rfl rfl rfl HNE.out HY4.out HY5.out (yV HRW.out Kv.out Ku.out jE.out.size (gm jE.out HB6.out) (gZ _ _ _ _))
      ·have e8:(q0.typ != 251)=true:=by rw[bne_iff_ne];exact k251
       have HRW0:=qe (show tr.yS H op qs au=([],5) by rw[HQS.out];exact tr.row_other HOP.out HC.out Kl k251);clear k251 Kl;have HRW:=qe (show tr.yS H op qs au=([],5) from HRW0.out);have HY4:=qe y4;have HY5:=qe y5;go_wp2_with fail
       (try simp only[Exit.inBlock,Exit.then])
       exact kW rfl rfl rfl HNE.out HY4.out HY5.out (yV HRW.out Kv.out Ku.out jE.out.size (gm jE.out HB6.out) (gZ _ _ _ _))
   ·have e6:(q0.cls != 1)=true:=by rw[bne_iff_ne];exact kc
    go_upto_region 6 with fail;clear e3;refine qp (by kernel_rfl) (by kernel_rfl) ?_
    repeat (with_reducible refine Hu (λK hK=>?_);go_simp;(try simp only[undef]);first | (with_reducible refine hK _ ?_;clear hK K))
    refine Hw ?_
    (try simp only[show Value.tuple #[]=undef from rfl])
    intro U hU;have hBU:Below w5.heap.size w5 U:=by obtain⟨g,rfl⟩:=hU;exact qD _ g
    clear hU;have HB6:=qe (gm HB5.out hBU);clear hBU k0 k1 k2' e6;clear m0 m1 m2 m3 m4 m5 m6 m7 m8 m9 m10 m11 m12 m13 y2 y4 f4 y5 f5;obtain⟨m0,m1,m2,m3,m4,m5,m6,m7,m8,m9,m10,m11,m12,m13⟩:=(HM.out.below HB6.out).facts;obtain⟨y2,y4,f4,y5,f5⟩:=zk.out _ HB6.out;have HRW:=qe (show tr.yS H op qs au=([],9) from(by rw[HQS.out];exact tr.row_not HOP.out (λhh=>kc hh.1)));have HY4:=qe y4;have HY5:=qe y5;go_wp2_with fail
    (try simp only[Exit.inBlock,Exit.then])
    exact kW rfl rfl rfl HNE.out HY4.out HY5.out (yV HRW.out Kv.out Ku.out jE.out.size (gm jE.out HB6.out) (gZ _ _ _ _))
  ·have e3:(op != 0)=true:=by rw[bne_iff_ne];exact ho
   have HRW:=qe (show tr.yS H op qs au=([],4) from(by rw[HQS.out];exact tr.row_op ho));have HY4:=qe y4;have HY5:=qe y5;go_wp2_with fail
   (try simp only[Exit.inBlock,Exit.then])
   exact kW rfl rfl rfl HNE.out HY4.out HY5.out (yV HRW.out Kv.out Ku.out jE.out.size (gm jE.out HB5.out) (gZ _ _ _ _))
 ·have e4:((qs.length:Int) != 1)=true:=by rw[bne_iff_ne];omega
  have HRW:=qe (show tr.yS H op qs au=([],1) from(tr.row_many hq1));have HY4:=qe y4;have HY5:=qe y5;go_wp2_with fail
  (try simp only[Exit.inBlock,Exit.then])
  exact kW rfl rfl rfl HNE.out HY4.out HY5.out (yV HRW.out Kv.out Ku.out jE.out.size (gm jE.out HRF.out) (gZ _ _ _ _))
end Go.Proofs.YtpcmilhjpmlbpaaGreatDoor
