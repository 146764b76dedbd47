import Derived.Test.YtpcmilhjpmlbpaaGreatDoorQFarA
import Derived.Test.YtpcmilhjpmlbpaaGreatDoorQCpL
import Derived.Deep.RegionHeld3
import Derived.Deep.CutBlock
import Derived.Deep.RegionLaw
set_option maxRecDepth 100000
set_option maxHeartbeats 8000000
namespace Go.Proofs.YtpcmilhjpmlbpaaGreatDoor
open Go.RowKit Go.Shelf nm od
theorem new7_any (qg:ByteArray)(l:List Rec)(hok:∀r∈l,(Lit.int .i64 r.typ).wf=true)(v:Value)(hf:yt v)(w:World)(hrv:qm w v l):
 Calls Tryz.prog 45 #[.string qg,v] w fun e w'=>ZF qg l w e w':=by
 refine(new_anyB qg l hok v hf w hrv).mono fun e w' h=>?_;obtain⟨hB,h⟩:=h;refine⟨hB,?_⟩
 revert h
 cases zn.yO qg l with
 | some p=>exact fun h=>h
 | none=>
   rintro⟨z,L,hz,hs,he,hi⟩;exact⟨z,L,hz,hs,he,QD.new (hi.keep fun _ _ _=>rfl)⟩
open Go.WideMaps
theorem zn.newE_code7 {qg:ByteArray}{l:List Rec}{k c:Int}(h:zn.yO qg l=some (k,c)):c≠0:=by
 have hp:∀e,zn.kg qg l=some e→e.2≠0:=fun e he=>by
  unfold zn.kg at he
  split at he
  ·obtain rfl:=Option.some.inj he;simp
  ·split at he
   ·obtain rfl:=Option.some.inj he;simp
   ·cases he
 have hr:∀e,zn.zU qg l=some e→e.2≠0:=fun e he=>by
  unfold zn.zU at he
  split at he
  ·obtain rfl:=Option.some.inj he;simp
  ·split at he
   ·obtain rfl:=Option.some.inj he;simp
   ·split at he
    ·obtain rfl:=Option.some.inj he;simp
    ·split at he
     ·obtain rfl:=Option.some.inj he;simp
     ·split at he
      ·obtain rfl:=Option.some.inj he;simp
      ·split at he
       ·obtain rfl:=Option.some.inj he;simp
       ·split at he
        ·obtain rfl:=Option.some.inj he;simp
        ·split at he
         ·obtain rfl:=Option.some.inj he;simp
         ·cases he
 unfold zn.yO at h
 split at h
 ·have e:=Option.some.inj h;simp only[Prod.mk.injEq]at e;omega
 ·split at h
  ·have e:=Option.some.inj h;simp only[Prod.mk.injEq]at e;omega
  ·split at h
   ·rename_i e he
    obtain rfl:=Option.some.inj h;exact hp _ he
   ·exact hr _ h
abbrev kD (c:Int):Value:=.iface 105 (.agg #[.int .i64 c])
def jC (qg:ByteArray)(l:List Rec)(w:World)(e:Ending)(w':World):Prop:=Below w.heap.size w w'∧
 ((zn.yO qg l=none∧∃top z L,zS l L∧e= .returned (.tuple #[.pointer (some ⟨z,0,none⟩),.nilIface])∧jA w' top z qg L)∨∃k c,zn.yO qg l=some (k,c)∧c≠0∧e= .returned (.tuple #[.pointer none,kD c]))
theorem made_any (qg:ByteArray)(l:List Rec)(hok:∀r∈l,(Lit.int .i64 r.typ).wf=true)(v:Value)(hf:yz v)(w:World)(hrv:qm w v l):
 Calls Tryz.prog 140 #[.string qg,v] w fun e w'=>jC qg l w e w':=by
 have HN:=qe (new7_any qg l hok v hf.any w hrv);obtain⟨a,cap,rfl,-⟩:=id hrv;clear hrv hf hok
 go_enter Tryz.func140,Tryz.ntmps140
 go_wp2_with fail;refine HN.out.mono ?_;intro e w1 hp;rcases hne:zn.yO qg l with _ | ⟨k0,c0⟩
 ·obtain⟨hB1,z,L,_,hs,rfl,hzf⟩:=Us hp hne;have HF:=qe (show jC qg l w (.returned (.tuple #[.pointer (some ⟨z,0,none⟩),.nilIface])) w1 from⟨hB1,.inl ⟨hne,_,z,L,hs,rfl,hzf⟩⟩);clear hp hne hB1 hs hzf;go_wp2_with fail;go_ret2;exact HF.out
 ·obtain⟨hB1,rfl⟩:=newPost_bad hp hne;have hc:=zn.newE_code7 hne;have d1:(c0 != 0)=true:=by rw[bne_iff_ne];exact hc
  have HF:=qe (show jC qg l w (.returned (.tuple #[.pointer none,kD c0])) w1 from⟨hB1,.inr ⟨k0,c0,hne,hc,rfl⟩⟩);clear hp hne hB1 hc;go_wp2_with fail;go_ret2;exact HF.out
end Go.Proofs.YtpcmilhjpmlbpaaGreatDoor
namespace Go.Proofs.YtpcmilhjpmlbpaaGreatDoor
open Go.RowKit Go.Shelf nm od
def KT (w:World)(t:Nat)(zv:Value)(n:ByteArray)(s:Bool)(l:List Rec)(v:Value):Prop:=qm w v l∧t<w.heap.size∧w.cell? ⟨t,0,none⟩=some zv∧w.cell? ⟨t,1,none⟩=some (.string n)∧w.cell? ⟨t,2,none⟩=some (.bool s)∧w.cell? ⟨t,3,none⟩=some v
theorem KT.below {w w':World}{t:Nat}{zv:Value}{n:ByteArray}{s:Bool}{l:List Rec}{v:Value}(h:KT w t zv n s l v)(hB:Below w.heap.size w w'):KT w' t zv n s l v:=by
 obtain⟨h1,h2,c0,c1,c2,c3⟩:=h;exact⟨h1.below hB,Nat.lt_of_lt_of_le h2 hB.size,(hB.cell (p:=⟨t,_,none⟩) h2).trans c0,(hB.cell (p:=⟨t,_,none⟩) h2).trans c1,(hB.cell (p:=⟨t,_,none⟩) h2).trans c2,(hB.cell (p:=⟨t,_,none⟩) h2).trans c3⟩
def xM (o:tr.Out)(zv:Value)(w:World)(e:Ending)(w':World):Prop:=match o with
 | .err c=>c≠0∧Below w.heap.size w w'∧e= .returned (.tuple #[.pointer none,kD c])
 | .same=>Below w.heap.size w w'∧e= .returned (.tuple #[zv,.nilIface])
 | .make ap l=>jC ap l w e w'
theorem jC.from {ap:ByteArray}{l:List Rec}{w w1 w':World}{e:Ending}(hB:Below w.heap.size w w1)(h:jC ap l w1 e w'):jC ap l w e w':=⟨hB.trans (h.1.mono hB.size),h.2⟩
theorem jC.two {ap:ByteArray}{l:List Rec}{w w':World}{e:Ending}(h:jC ap l w e w'):Below w.heap.size w w'∧∃r1 r2,e= .returned (.tuple #[r1,r2])∧jC ap l w (.returned (.tuple #[r1,r2])) w':=by
 refine⟨h.1,?_⟩;rcases h with⟨hB,⟨h1,t,z,L,hs,rfl,hz⟩|⟨k,c,h1,h2,rfl⟩⟩
 ·exact⟨_,_,rfl,hB,.inl ⟨h1,t,z,L,hs,rfl,hz⟩⟩
 ·exact⟨_,_,rfl,hB,.inr ⟨k,c,h1,h2,rfl⟩⟩
theorem xM.from {o:tr.Out}{zv:Value}{w w1 w':World}{e:Ending}(hB:Below w.heap.size w w1)(h:xM o zv w1 e w'):xM o zv w e w':=by
 cases o with
 | err c=>exact⟨h.1,hB.trans (h.2.1.mono hB.size),h.2.2⟩
 | same=>exact⟨hB.trans (h.1.mono hB.size),h.2⟩
 | make ap l=>exact jC.from hB h
theorem idx_in7 {l:List Rec}{x:Rec}(h:x∈l):∃k:Nat,∃hk:k<l.length,l[k]=x∧tr.Q9 l x=(k:Int)∧l.erase x=l.take k ++ l.drop (k+1):=by
 unfold tr.Q9 df.idx
 cases e:l.findIdx? (fun y=>decide (x=y)) with
 | none=>
   have:=List.findIdx?_eq_none_iff.1 e x h;simp at this
 | some k=>
   obtain⟨hk,h1,h2⟩:=List.findIdx?_eq_some_iff_getElem.1 e;have hx:l[k]=x:=(of_decide_eq_true h1).symm;refine⟨k,hk,hx,rfl,?_⟩;have hn:x∉l.take k:=fun hm=>by
    obtain⟨j,hj,e⟩:=List.getElem_of_mem hm;rw[List.length_take]at hj;rw[List.getElem_take]at e;have:=h2 j (by omega);rw[e]at this;simp at this
   have hs:l=l.take k ++ x :: l.drop (k+1):=by rw[← hx,List.getElem_cons_drop,List.take_append_drop]
   have he:(l.take k ++ x :: l.drop (k+1)).erase x=l.take k ++ l.drop (k+1):=by rw[List.erase_append_right _ hn,List.erase_cons_head]
   rw[← he];exact congrArg (fun l=>l.erase x) hs
theorem all_any (t:Nat)(zv:Value)(n:ByteArray)(s:Bool)(x:Rec)(tl:List Rec)(hp:0<tl.length)(hl:(x :: tl).length≤1000000000)(hok:∀r∈x :: tl,(Lit.int .i64 r.typ).wf=true)(v:Value)(w:World)(ht:KT w t zv n s (x :: tl) v):
 Calls Tryz.prog 91 #[.pointer (some ⟨t,0,none⟩)] w fun e w'=>xM (tr.YY n x tl) zv w e w':=by
 obtain⟨hr,htl,c0,c1,c2,c3⟩:=id ht;obtain⟨va,vc,rfl,hvc,-⟩:=id hr;obtain⟨b,off,rfl⟩:=vk hr (by simp);obtain⟨hbl,r0,r1,r2,r3,r4⟩:=qL hr (j:=0) (by simp);simp only[List.getElem_cons_zero,Nat.zero_mul,Nat.add_zero]at r0 r1 r2 r3 r4;have hdr:=VR hr (k:=1) (by simp);simp only[List.drop_one,List.tail_cons,Nat.one_mul]at hdr;obtain⟨m,hm⟩:∃m,m=(x :: tl).length:=⟨_,rfl⟩;have hm2:m=tl.length+1:=by rw[hm];rfl
 rw[← hm]at hdr hl hvc;have HI:=qe (show ∀X,Below w.heap.size w X→Calls Tryz.prog 141 #[.slice (some ⟨b,off+5,none⟩) (m-1) (vc-1),ym x] X fun e w'=>e= .returned (.int .i64 (tr.Q9 tl x))∧Below X.heap.size X w' from fun X hX=>
  Vt tl (by omega) x _ X (hdr.below hX))
 have HT:=qe ht;have HR:=qe hr;have HM:=qe hm;have HOK:=qe hok;have zD:=qe (show ∀X,Below w.heap.size w X→Below w.heap.size w X∧X.cell? ⟨t,3,none⟩=some (.slice (some ⟨b,off,none⟩) m vc)∧X.cell? ⟨b,off,none⟩=some (.string x.owner)∧X.cell? ⟨b,off+1,none⟩=some (.int .i64 x.typ)∧X.cell? ⟨b,off+2,none⟩=some (.int .i64 x.cls)∧X.cell? ⟨b,off+3,none⟩=some (.int .i64 x.ttl)∧X.cell? ⟨b,off+4,none⟩=some (.string x.data) from fun X hX=>
  ⟨hX,by rw[hm];exact(ht.below hX).2.2.2.2.2,(show Qs w b off x from⟨r0,r1,r2,r3,r4⟩).keep (hX.block b hbl)⟩)
 rw[← hm]at c3;have e0:0<m:=by omega
 have e1:(1:Int)≤(m:Int):=by omega
 have e2:m≤vc:=hvc;have e20:1≤m:=by omega
 have e21:1≤vc:=by omega
 have e22:¬(vc=1):=by omega
 have HM2:=qe hm2;clear ht hr hm hok hdr hm2 hvc hp
 go_enter Tryz.func91,Tryz.ntmps91
 go_upto_region 1 with fail
 go_cut [4] (fun s wx=>s= .int .i64 (IntKind.i64.wrap (tr.Q9 tl x+1))∧Below w.heap.size w wx)
 case first=>
  obtain⟨-,-,a0,a1,a2,a3,a4⟩:=zD.out w (Below.refl _ _)
  go_region_held3 (fun X=>Below w.heap.size w X∧X.cell? ⟨t,3,none⟩=some (.slice (some ⟨b,off,none⟩) m vc)∧X.cell? ⟨b,off,none⟩=some (.string x.owner)∧X.cell? ⟨b,off+1,none⟩=some (.int .i64 x.typ)∧X.cell? ⟨b,off+2,none⟩=some (.int .i64 x.cls)∧X.cell? ⟨b,off+3,none⟩=some (.int .i64 x.ttl)∧X.cell? ⟨b,off+4,none⟩=some (.string x.data))
   (first | assumption | exact zD.out _ (Below.refl _ _).drew | (go_split_ands;exact zD.out _ (by assumption)))
   (first | (go_at_call 141;(with_reducible refine(HI.out _ (by go_split_ands;assumption)).mono ?_);rintro e wX ⟨rfl,hbX⟩;go_split_ands;have J5:=Below.trans (B:=w.heap.size) (a:=w) (by assumption) (hbX.mono (Below.size (by assumption)))))
  all_goals (go_wp2_with fail;go_meet;exact⟨rfl,J5⟩)
 obtain⟨rfl,hB1⟩:=hcut;obtain⟨w1,hw1⟩:∃X:World,X=wc:=⟨_,rfl⟩;subst hw1;obtain⟨-,c3,-⟩:=zD.out w1 hB1;have HB1:=qe hB1;have hc1:=(HT.out.below hB1).2.2.2.1;clear hB1 c0 c1 c2 r0 r1 r2 r3 r4 HI zD;by_cases hx:x∈tl
 ·obtain⟨k,hk,hkx,hki,-⟩:=idx_in7 hx;have ew:IntKind.i64.wrap (tr.Q9 tl x+1)=((k+1:Nat):Int):=by rw[hki];exact IntWalk.i64_in _ (by have:=HM2.out;omega)
  rw[ew];obtain⟨k1,hk1⟩:∃k1,k1=k+1:=⟨_,rfl⟩;rw[← hk1];have e3:((k1:Int) == 0)=false:=by rw[beq_eq_false_iff_ne];omega
  have e4:IntKind.i64.wrap ((k1:Int)+1)=((k1:Int)+1):=IntWalk.i64_in _ (by have:=HM2.out;omega);by_cases hlt:k1+1<m
  ·have e5:((k1:Int)+1<(m:Int)):=by omega
   have HP:=qe (show tr.YY n x tl= .err 11 from by unfold tr.YY;rw[if_pos hx,hki,Int.toNat_natCast,if_pos (by have:=HM2.out;omega)]);clear hx hk hkx hki ew hk1 hlt;go_wp2_with fail;go_ret2;rw[HP.out];exact⟨by decide,HB1.out,rfl⟩
  ·have e5:¬((k1:Int)+1<(m:Int)):=by omega
   have HP:=qe (show tr.YY n x tl= .make n (x :: tl.take k) from by unfold tr.YY;rw[if_pos hx,hki,Int.toNat_natCast,if_neg (by have:=HM2.out;omega)]);have htk:qm w1 (.slice (some ⟨b,off,none⟩) k1 vc) (x :: tl.take k):=by
    have h:=Zz (HR.out.below HB1.out) (k:=k1) (by simp;omega);rw[hk1,List.take_succ_cons]at h;rw[hk1];exact h
   have HMD:=qe (show ∀X,Below w1.heap.size w1 X→Calls Tryz.prog 140 #[.string n,.slice (some ⟨b,off,none⟩) k1 vc] X fun e w'=>jC n (x :: tl.take k) X e w' from fun X hX=>
    made_any n (x :: tl.take k) (fun r hr=>HOK.out r (by
     rcases List.mem_cons.1 hr with h | h
     ·rw[h];simp
     ·exact List.mem_cons_of_mem _ (List.mem_of_mem_take h))) _ (UE htk (by simp)) X (htk.below hX))
   have e6:(0:Int)≤(k1:Int):=by omega
   have e7:k1≤vc:=by have:=HM2.out;omega
   have hMD:=HMD.out;clear hx hk hkx hki ew hk1 hlt htk HMD;have HAL1:=qe (show ∀X,Below w1.heap.size w1 X→Below w1.heap.size w1 X∧X.cell? ⟨t,3,none⟩=some (.slice (some ⟨b,off,none⟩) m vc)∧X.cell? ⟨t,1,none⟩=some (.string n) from fun X hX=>
    ⟨hX,(hX.cell (p:=⟨t,_,none⟩) (Nat.lt_of_lt_of_le htl HB1.out.size)).trans c3,(hX.cell (p:=⟨t,_,none⟩) (Nat.lt_of_lt_of_le htl HB1.out.size)).trans hc1⟩)
   have HMX:=qe (show ∀X,Below w1.heap.size w1 X→Calls Tryz.prog 140 #[.string n,.slice (some ⟨b,off,none⟩) k1 vc] X fun e w'=>jC n (x :: tl.take k) X e w' from fun X hX=>hMD X hX);go_upto_region 6 with fail
   go_region_held3 (fun X=>Below w1.heap.size w1 X∧X.cell? ⟨t,3,none⟩=some (.slice (some ⟨b,off,none⟩) m vc)∧X.cell? ⟨t,1,none⟩=some (.string n))
    (first | assumption | exact HAL1.out _ (Below.refl _ _).drew | (go_split_ands;exact HAL1.out _ (by assumption)))
    (first | (go_at_call 140;(with_reducible refine(HMX.out _ (by go_split_ands;assumption)).mono ?_);intro e wX hpp;obtain⟨hbX,r1,r2,rfl,hpp⟩:=hpp.two;go_split_ands;have J5:=Below.trans (B:=w1.heap.size) (a:=w1) (by assumption) (hbX.mono (Below.size (by assumption)));have hbX3:=hbX))
   all_goals (go_wp2_with fail;go_ret2;rw[HP.out];exact⟨HB1.out.trans (J5.mono HB1.out.size),hpp.2⟩)
 ·have hni:tr.Q9 tl x= -1:=by unfold tr.Q9;exact df.Jk fun j hj=>decide_eq_false fun h=>hx (h ▸ List.getElem_mem hj)
  rw[hni];have HP:=qe (show tr.YY n x tl= .err 10 from by unfold tr.YY;rw[if_neg hx]);have ew:IntKind.i64.wrap (-1+1)=0:=rfl;rw[ew];clear hx hni ew;go_wp2_with fail;go_ret2;rw[HP.out];exact⟨by decide,HB1.out,rfl⟩
theorem recsC_drop (l:List Rec):∀(m:Nat),(qp l).drop (m*5)=qp (l.drop m):=by
 induction l with
 | nil=>intro m;simp[qp]
 | cons a t ih=>
   intro m
   cases m with
   | zero=>rfl
   | succ m=>
     have e:qp (a :: t)= .string a.owner :: .int .i64 a.typ :: .int .i64 a.cls :: .int .i64 a.ttl :: .string a.data :: qp t:=rfl;rw[e,show(m+1)*5=m*5+1+1+1+1+1 by omega];simp only[List.drop_succ_cons];rw[ih m]
theorem recsC_cat (a b:List Rec):qp (a ++ b)=qp a ++ qp b:=by unfold qp;exact List.flatMap_append
theorem own_setRun {w:World}{base g n cap k:Nat}{l:List Rec}(h:w.ownsRow base 80 5 (.slice (some ⟨g,0,none⟩) n cap) n (qp l))(m:List Rec)(hk:k+m.length≤n):
 (w.setCells g (k*5) (qp m)).ownsRow base 80 5 (.slice (some ⟨g,0,none⟩) n cap) n (qp (l.take k ++ m ++ l.drop (k+m.length)))∧w.grownBy (w.setCells g (k*5) (qp m)) (some g):=by
 have hml:(qp l).length=n*5:=h.1;have hln:l.length=n:=by rw[zK]at hml;omega
 have hm5:(qp m).length=m.length*5:=zK m;rcases h.2 with⟨h0,_⟩|⟨g',cap',cur,hv,hb,hg,hn,hc,hz,hx⟩
 ·cases h0
 ·simp only[Value.slice.injEq,Option.some.injEq,Addr.mk.injEq,and_true,true_and]at hv;obtain⟨rfl,rfl⟩:=hv;have hnc:n*5≤cap*5:=Nat.mul_le_mul_right _ hn;obtain⟨cur',h1,h2,h3,h4⟩:=Kg g 80 (qp m) (k*5) cur w hg (by rw[hm5,hz];omega);have hcl:cur.toList.length=cap*5:=by rw[Array.length_toList,hz]
  refine⟨⟨by rw[zK];simp;omega,.inr ⟨g,cap,cur',rfl,hb,h1,hn,hc,by rw[h2,hz],?_⟩⟩,h4⟩;have e1:cur.toList.take (k*5)=qp (l.take k):=by
   rw[← X9,← hx,List.take_take,Nat.min_eq_left (by omega)]
  have e2:(cur.toList.drop (k*5+(qp m).length)).take (n*5-(k*5+m.length*5))=qp (l.drop (k+m.length)):=by
   rw[← recsC_drop,← hx,hm5,List.drop_take,Nat.add_mul]
  rw[h3,recsC_cat,recsC_cat,e1];rw[List.take_append,List.take_of_length_le (by rw[List.length_append,zK,hm5,List.length_take];omega),← e2]
  congr 2
  rw[List.length_append,zK,hm5,List.length_take];omega
theorem erase_is (l:List Rec)(k:Nat)(hk:k<l.length):l.take k ++ l.drop (k+1) ++ l.drop (k+(l.drop (k+1)).length)=l.eraseIdx k ++ [l[l.length-1]'(by omega)]:=by
 rw[List.eraseIdx_eq_take_drop_succ]
 congr 1
 rw[List.length_drop,show k+(l.length-(k+1))=l.length-1 by omega];exact(List.drop_eq_getElem_cons (by omega)).trans (by rw[List.drop_of_length_le (by omega)])
theorem delete_any (l:List Rec)(hl:l.length≤1000000000000)(k:Nat)(hk:k<l.length)(base b cap:Nat)(w:World)(hown:w.ownsRow base 80 5 (.slice (some ⟨b,0,none⟩) l.length cap) l.length (qp l)):
 Calls Tryz.prog 139 #[.slice (some ⟨b,0,none⟩) l.length cap,.int .i64 (k:Int),.int .i64 ((k+1:Nat):Int)] w fun e w'=>
  e= .returned (.slice (some ⟨b,0,none⟩) (l.length-1) cap)∧w.grownBy w' (some b)∧w'.ownsRow base 80 5 (.slice (some ⟨b,0,none⟩) (l.length-1) cap) (l.length-1) (qp (l.eraseIdx k)):=by
 obtain⟨ZN,Za,Zh,uC,uO⟩:=info_parts jM;have hcap:l.length≤cap:=by
  rcases hown.2 with⟨h0,_⟩|⟨_,_,_,hv,_,_,hn,_⟩
  ·cases h0
  ·simp only[Value.slice.injEq,Option.some.injEq,Addr.mk.injEq,and_true,true_and]at hv;obtain⟨rfl,rfl⟩:=hv;exact hn
 obtain⟨n,hn⟩:∃n,n=l.length:=⟨_,rfl⟩;obtain⟨k1,hk1⟩:∃k1,k1=k+1:=⟨_,rfl⟩;obtain⟨n1,hn1⟩:∃n1,n1=n-1:=⟨_,rfl⟩;rw[← hn,← hk1];rw[← hn]at hown hcap hl hk;have hml:(qp l).length=n*5:=hown.1;have hdl:(l.drop k1).length=n-k1:=by rw[List.length_drop,hn]
 have hm5:(qp (l.drop k1)).length=(n-k1)*5:=by rw[zK,hdl]
 obtain⟨hset,hgs⟩:=own_setRun (w:=w.drew) (show w.drew.ownsRow base 80 5 (.slice (some ⟨b,0,none⟩) n cap) n (qp l) from hown) (l.drop k1) (k:=k) (by rw[hdl];omega);rw[hk1,erase_is l k (by omega),← hk1]at hset;obtain⟨z,hz⟩:∃z,z=l[l.length-1]'(by omega):=⟨_,rfl⟩;rw[← hz]at hset;clear hz;have hnews:∀(A:Addr),(k1<n→A=⟨b,k1*5,none⟩)→∀j u,(qp (l.drop k1))[j]? =some u→w.drew.cell? (A.add j)=some u:=fun A hA j u hj=>by
  have hjl:j<(n-k1)*5:=by rw[← hm5];exact(List.getElem?_eq_some_iff.1 hj).1
  rw[hA (by omega),Addr.add_lit];show w.cell? _=_;rw[hown.cellAt (k1*5+j) (by have:=Nat.mul_le_mul_right 5 (show k1≤n by omega);rw[Nat.sub_mul]at hjl;omega),← hj,← recsC_drop,List.getElem?_drop]
 have hspare:∀j,j<(qp (l.drop k1)).length→(w.drew.cell? ⟨b,0+k*5+j,none⟩).isSome=true∧w.drew.frozen? ⟨b,0+k*5+j,none⟩=false:=fun j hj=>by
  rw[hm5]at hj;have h1:=Nat.mul_le_mul_right 5 (show k1≤n by omega);rw[Nat.sub_mul]at hj;have hlt:k*5+j<n*5:=by omega
  refine⟨?_,hown.frozenAt _⟩;show(w.cell? _).isSome=true;rw[Nat.zero_add,hown.cellAt (k*5+j) hlt,List.getElem?_eq_getElem (by rw[hml];exact hlt)];rfl
 have s1:=qe (show(qp (l.drop k1)).length=(n-k1)*5 from hm5);have s2:=qe (vV (l.drop k1));have kR:=qe hnews;have HSPARE:=qe hspare;have HSET:=qe hset;have HGS:=qe hgs;have HOWN:=qe hown;have HI:=qe Za;have HZ1:=qe uC;have HN:=qe hn;have HK1:=qe hk1;have HN1:=qe hn1;have ne1:((k:Int) == (k1:Int))=false:=by rw[beq_eq_false_iff_ne];omega
 have hk1':k1≤n:=by omega
 have hkk:k<k1:=by omega
 have b1:(k:Int)≤(k1:Int):=by omega
 have b2:(k1:Int)≤(n:Int):=by omega
 have b3:(n:Int)≤(cap:Int):=by omega
 have b4:(k:Int)≤(cap:Int):=by omega
 have b5:(k1:Int)≤(cap:Int):=by omega
 have b6:(0:Int)≤(k:Int):=by omega
 have b7:(0:Int)≤(k1:Int):=by omega
 clear hnews hspare hset hgs hown Za uC Zh uO hml hdl hm5 hn hk1 hn1
 go_enter Tryz.func139,Tryz.ntmps139
 go_upto_region 5 with fail;by_cases hcc:cap=k1
 ·have hc2:(k1:Int)=(cap:Int):=by omega
  have hkn:¬k1<n:=by omega
  have HKN:=qe hkn;have HCC:=qe hcc;have hcn:cap≤n:=by omega
  have s0:=qe (show(qp (l.drop k1)).length=0*5 from by have:=s1.out;omega);clear hcc hkn
  go_region_law (refine step_append_room rfl (.tmp 22) (.tmp 25) 31 rfl 80 ZN 5 Tryz.underlying31 HI.out HZ1.out b 0 k cap (by simp[Act.eval,Act.put]) ⟨b,0,none⟩ 0 0 (qp (l.drop k1)) (by simp[Act.eval,Act.put]) s0.out (kR.out _ (fun h=>absurd h HKN.out)) s2.out (by omega) HSPARE.out ?_)
  obtain rfl:n1=k:=by have:=HN1.out;have:=HK1.out;have:=HCC.out;omega
  obtain⟨W1,hW1⟩:∃W,W=w.drew.setCells b (n1*5) (qp (l.drop k1)):=⟨_,rfl⟩;have hset:=HSET.out;rw[← hW1]at hset ⊢;obtain⟨hcl,hos,hgc⟩:=Vj hset (i:=n1) (by have:=HN1.out;omega);have hgd:w.grownBy w.drew (some b):=⟨rfl,rfl,rfl,Nat.le_refl _,fun _ _ _=>rfl⟩;have hgw:w.grownBy (W1.setCells b (n1*5) (qp (List.replicate (n-n1) vE))) (some b):=(hgd.trans (by have h:=HGS.out;rw[← hW1]at h;exact h)).trans hgc;have hel:(l.eraseIdx n1 ++ [z]).take n1=l.eraseIdx n1:=by
   have:(l.eraseIdx n1).length=n1:=by rw[List.length_eraseIdx,if_pos (by have:=HN.out;omega)];have:=HN1.out;have:=HN.out;omega
   exact(congrArg (fun m=>(l.eraseIdx n1 ++ [z]).take m) this.symm).trans List.take_left
  rw[hel]at hos;have HW1:=qe hW1;have c1:(n1:Int)≤(n:Int):=by have:=HN1.out;omega
  have c2:(0:Int)≤(n1:Int):=by omega
  have c3:(n1:Int)≤(cap:Int):=by omega
  have c4:¬(n1:Int)=(cap:Int):=by have:=HN1.out;omega
  have c5:¬cap=n1:=by have:=HN1.out;omega
  have c6:n1<n:=by have:=HN1.out;omega
  have HOS:=qe hos;have HGW:=qe hgw;clear hset hos hgw hgc hgd hW1 hel;go_wp2_with fail;go_ret;have en:n-1=n1:=HN1.out.symm;rw[en];exact⟨rfl,HGW.out,HOS.out⟩
 ·have hc2:¬(k1:Int)=(cap:Int):=by omega
  have hc4:((k1:Int) == (cap:Int))=false:=by rw[beq_eq_false_iff_ne];omega
  go_region_law (refine step_append_room rfl (.tmp 22) (.tmp 25) 31 rfl 80 ZN 5 Tryz.underlying31 HI.out HZ1.out b 0 k cap (by simp[Act.eval,Act.put]) ⟨b,k1*5,none⟩ (n-k1) (cap-k1) (qp (l.drop k1)) (by simp[Act.eval,Act.put]) s1.out (kR.out _ (fun _=>rfl)) s2.out (by omega) HSPARE.out ?_)
  have e:k+(n-k1)=n1:=by have:=HN1.out;have:=HK1.out;omega
  rw[e];obtain⟨W1,hW1⟩:∃W,W=w.drew.setCells b (k*5) (qp (l.drop k1)):=⟨_,rfl⟩;have hset:=HSET.out;rw[← hW1]at hset ⊢;obtain⟨hcl,hos,hgc⟩:=Vj hset (i:=n1) (by have:=HN1.out;omega);have hgd:w.grownBy w.drew (some b):=⟨rfl,rfl,rfl,Nat.le_refl _,fun _ _ _=>rfl⟩;have hgw:w.grownBy (W1.setCells b (n1*5) (qp (List.replicate (n-n1) vE))) (some b):=(hgd.trans (by have h:=HGS.out;rw[← hW1]at h;exact h)).trans hgc;have hel:(l.eraseIdx k ++ [z]).take n1=l.eraseIdx k:=by
   have:(l.eraseIdx k).length=n1:=by rw[List.length_eraseIdx,if_pos (by have:=HN.out;omega)];have:=HN1.out;have:=HN.out;omega
   exact(congrArg (fun m=>(l.eraseIdx k ++ [z]).take m) this.symm).trans List.take_left
  rw[hel]at hos;have HW1:=qe hW1;have c1:(n1:Int)≤(n:Int):=by have:=HN1.out;omega
  have c2:(0:Int)≤(n1:Int):=by omega
  have c3:(n1:Int)≤(cap:Int):=by omega
  have c4:¬(n1:Int)=(cap:Int):=by have:=HN1.out;omega
  have c5:¬cap=n1:=by have:=HN1.out;omega
  have c6:n1<n:=by have:=HN1.out;omega
  have HOS:=qe hos;have HGW:=qe hgw;clear hset hos hgw hgc hgd hW1 hel e;go_wp2_with fail;go_ret;have en:n-1=n1:=HN1.out.symm;rw[en];exact⟨rfl,HGW.out,HOS.out⟩
namespace tr
theorem soa_only {z:Zn}(hv:Ok z){x:Rec}(hx:x∈z.l)(h6:x.typ=6):x=ze z:=by
 have h1:x∈zn.qI z.l (qx z.ap,6):=zn.ko.2 ⟨hx,(Ux hv hx).1 h6⟩;rw[(yM hv).1]at h1;exact List.mem_singleton.1 h1
theorem soa_idx {z:Zn}(hv:Ok z):∃k:Nat,∃hk:k<z.l.length,df.idx (fun r=>decide (r.typ=6)) z.l=(k:Int)∧z.l[k]=ze z∧z.l.eraseIdx k=qP z.l:=by
 have hs:=yM hv;unfold df.idx
 cases e:z.l.findIdx? (fun r=>decide (r.typ=6)) with
 | none=>
   have:=List.findIdx?_eq_none_iff.1 e _ hs.2.1;rw[hs.2.2.1]at this;simp at this
 | some k=>
   obtain⟨hk,h1,h2⟩:=List.findIdx?_eq_some_iff_getElem.1 e;have hx:z.l[k]=ze z:=soa_only hv (List.getElem_mem hk) (of_decide_eq_true h1);refine⟨k,hk,rfl,hx,?_⟩;have hnd:=zn.vF hv;have hs':z.l=z.l.take k ++ z.l[k] :: z.l.drop (k+1):=by rw[List.getElem_cons_drop,List.take_append_drop]
   have e1:(z.l.take k).filter (fun r=>!decide (r.typ=6))=z.l.take k:=List.filter_eq_self.2 fun y hy=>by
    obtain⟨j,hj,rfl⟩:=List.getElem_of_mem hy;rw[List.length_take]at hj;have:=h2 j (by omega);rw[List.getElem_take]
    simpa using this
   have e2:(z.l.drop (k+1)).filter (fun r=>!decide (r.typ=6))=z.l.drop (k+1):=List.filter_eq_self.2 fun y hy=>by
    by_cases h6:y.typ=6
    ·exfalso;have hy2:y=z.l[k]:=(soa_only hv (List.mem_of_mem_drop hy) h6).trans hx.symm;rw[hs']at hnd;have:=(List.nodup_append.1 hnd).2.1;exact(List.nodup_cons.1 this).1 (hy2 ▸ hy)
    ·simp[h6]
   have e3:qP (z.l.take k ++ z.l[k] :: z.l.drop (k+1))=z.l.take k ++ z.l.drop (k+1):=by
    unfold qP;rw[List.filter_append,List.filter_cons,if_neg (by simp[of_decide_eq_true h1]),e1,e2]
   rw[List.eraseIdx_eq_take_drop_succ];rw[← hs']at e3;exact e3.symm
theorem JH {Z:Zn}{x:Rec}{tl:List Rec}{c:Int}{l:List Rec}(h:jw x (ze Z,false,qP Z.l) tl=(c,l))(hc:c≠0):uP Z x tl= .err c:=by
 unfold uP;rw[h];exact if_neg hc
theorem steps_make {Z:Zn}{x:Rec}{tl:List Rec}{l:List Rec}(h:jw x (ze Z,false,qP Z.l) tl=(0,l)):uP Z x tl= .make Z.ap l:=by
 unfold uP;rw[h];exact if_pos rfl
end tr
theorem Xp:∀args w,(callFunc 138 args).run Tryz.prog w= .ok (.enter 138 args) w:=fun _ _=>by kernel_rfl
theorem steps1_any (r:Rec)(w:World):Calls Tryz.prog 138 #[ym r] w fun e w'=>e= .returned (.bool (decide (r.typ=6)))∧Below w.heap.size w w':=by
 obtain⟨wa,hwa⟩:∃W,W=w.alloc (.cells (recC r).toArray 80):=⟨_,rfl⟩;obtain⟨hBa,hsa,hxa⟩:=qY w wa r hwa;obtain⟨bx,hbx⟩:∃b,b=w.heap.size:=⟨_,rfl⟩;rw[← hbx]at hxa;obtain⟨x0,x1,x2,x3,x4⟩:=id hxa;have HB:=qe hBa;have HWA:=qe hwa;have HBX:=qe hbx;clear hwa hBa hsa hbx hxa;obtain⟨t,ht⟩:∃t,t=decide (r.typ=6):=⟨_,rfl⟩;have hb:(r.typ == 6)=t:=by rw[ht];exact Bool.beq_eq_decide_eq ..
 rw[← ht];clear ht
 go_enter Tryz.func138,Tryz.ntmps138
 go_upto_region 1 with fail;rw[← HWA.out,← HBX.out];go_wp2_with fail;go_ret;exact⟨rfl,HB.out⟩
theorem Xb (l:List Rec)(hl:l.length≤1000000000)(k k1:Nat)(hk:k<l.length)(hk1:k1=k+1)(base:Nat)(v:Value)(w:World)(hown:w.ownsRow base 80 5 v l.length (qp l)):
 Calls Tryz.prog 139 #[v,.int .i64 (k:Int),.int .i64 (k1:Int)] w fun e w'=>
  ∃v',e= .returned v'∧v'.ownBlock=v.ownBlock∧w.grownBy w' v.ownBlock∧w'.ownsRow base 80 5 v' (l.eraseIdx k).length (qp (l.eraseIdx k)):=by
 obtain⟨gb,cap',rfl,_,hgb⟩:=hown.form (by omega);subst hk1;refine(delete_any l (by omega) k hk base gb cap' w hown).mono ?_;rintro e w' ⟨rfl,h1,h2⟩;refine⟨_,rfl,rfl,h1,?_⟩;rw[List.length_eraseIdx,if_pos hk];exact h2
end Go.Proofs.YtpcmilhjpmlbpaaGreatDoor
