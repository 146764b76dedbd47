import Derived.Test.YtpcmilhjpmlbpaaGreatDoorQTrQ
import Derived.Test.YtpcmilhjpmlbpaaGreatDoorQTrW
import Derived.Test.YtpcmilhjpmlbpaaGreatDoorQTrT
import Derived.Test.YtpcmilhjpmlbpaaGreatDoorQTrF
import Derived.Test.YtpcmilhjpmlbpaaGreatDoorQTrH
import Derived.Deep.DeepMust
import Derived.Deep.RegionWith
import Derived.Deep.CutBlock
import Derived.Deep.RegionHeld3
set_option maxRecDepth 100000
set_option maxHeartbeats 8000000
namespace Go.Proofs.YtpcmilhjpmlbpaaGreatDoor
open Go.RowKit Go.Shelf nm od
def yU (v:Value):Prop:=v= .slice none 0 0∨∃(ad:Addr) (n cap:Nat),v= .slice (some ad) n cap
theorem zZ.any {v:Value}(h:zZ v):yU v:=by
 rcases h with h | ⟨b,off,n,cap,h⟩
 ·exact .inl h
 ·exact .inr ⟨_,_,_,h⟩
theorem Yn {w:World}{ad:Addr}{cap n:Nat}{l:List Rec}(h:qz w (.slice (some ad) n cap) l):n=l.length∧∀j u,(qx l)[j]? =some u→w.cell? (ad.add j)=some u:=by
 cases l with
 | nil=>
   obtain⟨a,c,hv,_⟩:=h
   simp only[Value.slice.injEq]at hv
   exact⟨hv.2.1,fun j u hu=>by cases hu⟩
 | cons x t=>
   have h2:=h
   obtain⟨a,c,hv,_,hr⟩:=h2
   simp only[Value.slice.injEq]at hv
   obtain⟨b,off,e,_⟩:=hr 0 (by simp)
   have e2:=hv.1.trans e
   simp only[Option.some.injEq]at e2
   subst e2
   obtain⟨h3,h4⟩:=ZK h
   exact⟨h3,fun j u hu=>by rw[Addr.add_lit];exact h4 j u hu⟩
end Go.Proofs.YtpcmilhjpmlbpaaGreatDoor
namespace Go.Proofs.YtpcmilhjpmlbpaaGreatDoor
open Go.RowKit Go.Shelf nm od
theorem jW {w:World}{base:Nat}{v:Value}{n:Nat}{xs:List Value}(h:w.ownsRow base 80 5 v n xs):yU v:=by
 rcases h.2 with⟨h0,_⟩|⟨g,cap,_,hv,_⟩
 ·exact .inl h0
 ·exact .inr ⟨_,n,cap,hv⟩
theorem zC {ops:Array Oper}{rest:List Oper}{o:Oper}{a:Act}{Q:Exit→Act→World→Prop}{w:World}(hgd:o.guard=none)(s x:Operand)
 (ho:o.op= .call { callee:=.builtin .append,args:=#[s,x],argTypes:=#[31,31]})
 (base:Nat) (v:Value) (n:Nat) (xs:List Value) (hs:a.eval s=v) (hown:w.ownsRow base 80 5 v n xs)
 (u:Value) (hf:yU u) (l:List Rec) (hu:qz w u l) (hx:a.eval x=u) (hl:n+l.length≤1000000000) (hbase:base≤w.heap.size)
 (h:∀v' w',w'.ownsRow base 80 5 v' (n+l.length) (xs ++ qx l)→w.grownBy w' v.ownBlock→(∀b,v'.ownBlock=some b→v.ownBlock=some b∨w.heap.size≤b)→wpList Tryz.prog ops Q rest (a.put o.dst v') w'):wpList Tryz.prog ops Q (o :: rest) a w:=by
 obtain⟨i,hi,hz,hz1,hz2⟩:=info_parts uY
 rcases hf with rfl | ⟨ad,m,cap,rfl⟩
 ·have h0:l= []:=by
   obtain⟨a',c,hv,_⟩:=hu
   simp only[Value.slice.injEq]at hv
   exact List.eq_nil_of_length_eq_zero hv.2.1.symm
  subst h0
  have hr:=run_append_owned_none (P:=Tryz.prog) w base 31 o.type 80 i 5 Tryz.underlying31 hi v n xs hown
  refine wpList_plain hgd fun K hK=>?_
  unfold Oper.wp execOp
  simp only[ho,resolve,invoke,builtin,Sem.run_bind,Sem.run_pure,Result.andThen_ok,List.map_toArray,List.map_cons,List.map_nil,hs,hx,hr]
  refine hK _ _ (h v w (by simpa[qx] using hown) ⟨rfl,rfl,rfl,Nat.le_refl _,fun _ _ _=>rfl⟩ fun b hb=>.inl hb)
 ·obtain⟨hn,hc⟩:=Yn hu
  subst hn
  exact zo w hgd s x 31 ho base 80 i (.agg #[.string ⟨#[]⟩,.int .i64 0,.int .i64 0,.int .i64 0,.string ⟨#[]⟩]) 5 56 Tryz.underlying31 hi hz hz1 hz2 rfl (by decide) v n xs hs hown ad l.length cap (qx l) hx (zK l) hc (Zf l)
   (by unfold maxLen;omega) (by omega) hbase h
theorem uS {w:World}{base:Nat}{v:Value}{n m:Nat}{l k:List Rec}(hn:n=l.length)(hm:m=k.length)(h:w.ownsRow base 80 5 v (n+m) (qx l ++ qx k)):w.ownsRow base 80 5 v (l ++ k).length (qx (l ++ k)):=by
 subst hn;subst hm
 rw[List.length_append]
 rw[show qx (l ++ k)=qx l ++ qx k from by unfold qx;exact List.flatMap_append ..]
 exact h
theorem uR {w w1:World}{base:Nat}(r:Rec)(e:w1=w.alloc (.cells (recC r).toArray 80))(hb:base≤w.heap.size):w1.ownsRow base 80 5 (.slice (some ⟨w.heap.size,0,none⟩) ([r]:List Rec).length 1) ([r]:List Rec).length (qx [r]):=by
 subst e
 exact World.ownsRow_lit w _ 1 hb (by unfold maxLen;omega) rfl
theorem twhole_any (tz z:Nat)(Z:tr.Zn)(hv:tr.Ok Z)(w:World)(hz:jc w tz z Z.ap Z.l):
 Calls Tryz.prog 67 #[qX z] w fun e w'=>jV (tr.yw Z) w e w':=by
 obtain⟨r,hr⟩:∃r,r=tr.q9 Z:=⟨_,rfl⟩
 have hwl:tr.yw Z=([r] ++ tr.q8 Z.l) ++ [r]:=by rw[hr];rfl
 have hsm:(tr.q8 Z.l).length≤2000:=Nat.le_trans (List.length_filter_le _ _) hz.small
 rw[hwl]
 have HZ:=Lib.hid hz;have HV:=Lib.hid hv;have HR:=Lib.hid hr;have HSM:=Lib.hid hsm
 clear hz hv hr hwl hsm
 have hS:=ZH tz z Z HV.out w HZ.out
 rw[← HR.out]at hS
 have HS:=Lib.hid hS
 clear hS
 go_enter Tryz.func67,Tryz.ntmps67
 go_wp2_with fail
 refine HS.out.mono ?_
 rintro e w1 ⟨rfl,hB1⟩
 have HB1:=Lib.hid hB1
 clear hB1
 obtain⟨w2,hw⟩:∃X,X=w1.alloc (.cells (recC r).toArray 80):=⟨_,rfl⟩
 obtain⟨hBn,-,-⟩:=zw w1 w2 r hw
 obtain⟨gw2,hg⟩:∃b,b=w1.heap.size:=⟨_,rfl⟩
 have hon:=uR (base:=w.heap.size) r hw HB1.out.size
 rw[← hg]at hon
 have HWw2:=Lib.hid hw;have HGw2:=Lib.hid hg;have HOw2:=Lib.hid hon;have HBNw2:=Lib.hid hBn
 have HBw2:=Lib.hid (HB1.out.trans (hBn.mono HB1.out.size))
 clear hw hg hon hBn
 go_wp2_with fail
 rw[← HWw2.out,← HGw2.out]
 refine(JG tz z Z w2 (HZ.out.kept HBw2.out)).mono ?_
 rintro e w3 ⟨v3,rfl,hB3,hown3⟩
 obtain⟨a3,c3,rfl,-⟩:=qm hown3
 have HB3:=Lib.hid (HBw2.out.trans (hB3.mono HBw2.out.size));have HO3:=Lib.hid (ownsRow_below HOw2.out hB3);have HN3:=Lib.hid hown3
 clear hB3 hown3
 go_wp2_with (at_builtin;refine zC rfl _ _ rfl w.heap.size _ _ _ rfl HO3.out _ (jW HN3.out) _ (qH HN3.out) rfl (by have:=HSM.out;simp only[List.length_singleton];omega) HB3.out.size ?_)
 intro v4 w4 ja hg4 hn4
 have HB4:=Lib.hid (HB3.out.grown hg4 HB3.out.size (fun j hj=>(HO3.out.lt j hj).1))
 have HO4:=Lib.hid (uS rfl rfl ja)
 clear ja hg4 hn4
 have hS4:=ZH tz z Z HV.out w4 (HZ.out.kept HB4.out)
 rw[← HR.out]at hS4
 have HS4:=Lib.hid hS4
 clear hS4
 go_wp2_with fail
 refine HS4.out.mono ?_
 rintro e w5 ⟨rfl,hB5⟩
 have HB5:=Lib.hid (HB4.out.trans (hB5.mono HB4.out.size));have HO5:=Lib.hid (ownsRow_below HO4.out hB5)
 clear hB5
 obtain⟨w6,hw⟩:∃X,X=w5.alloc (.cells (recC r).toArray 80):=⟨_,rfl⟩
 obtain⟨hBn,-,-⟩:=zw w5 w6 r hw
 obtain⟨gw6,hg⟩:∃b,b=w5.heap.size:=⟨_,rfl⟩
 have hon:=uR (base:=w.heap.size) r hw HB5.out.size
 rw[← hg]at hon
 have HWw6:=Lib.hid hw;have HGw6:=Lib.hid hg;have HOw6:=Lib.hid hon;have HBNw6:=Lib.hid hBn
 have HBw6:=Lib.hid (HB5.out.trans (hBn.mono HB5.out.size))
 clear hw hg hon hBn
 have HO6:=Lib.hid (ownsRow_below HO5.out HBNw6.out)
 go_wp2_with (at_builtin;rw[← HWw6.out,← HGw6.out];refine zC rfl _ _ rfl w.heap.size _ _ _ rfl HO6.out _ (jW HOw6.out) _ (qH HOw6.out) rfl (by have:=HSM.out;simp only[List.length_append,List.length_singleton];omega) HBw6.out.size ?_)
 intro v7 w7 UX hg7 hn7
 have HB7:=Lib.hid (HBw6.out.grown hg7 HBw6.out.size (fun j hj=>(HO6.out.lt j hj).1))
 have HO7:=Lib.hid (uS rfl rfl UX)
 clear UX hg7 hn7
 go_wp2_with fail
 go_ret
 exact⟨_,rfl,HB7.out,HO7.out⟩
end Go.Proofs.YtpcmilhjpmlbpaaGreatDoor
namespace Go.Proofs.YtpcmilhjpmlbpaaGreatDoor
open Go.RowKit Go.Shelf nm od
namespace tr
theorem chk_size {t:Int}{d:ByteArray}(h:dt.yT t d=0):d.size≤65535:=by
 unfold dt.yT at h
 split at h
 ·split at h
  ·cases h
  ·omega
 ·cases h
theorem Q7 {v:Int}(h1:0≤v)(h2:v≤4294967295):(Lit.int .i64 v).wf=true:=by
 simp[Lit.wf,IntKind.min,IntKind.max,IntKind.signed,IntKind.bits]
 omega
theorem right_ok {x:Rec}(h:wi.ze x=true):ZA x:=by
 unfold wi.ze at h
 simp only[Bool.and_eq_true]at h
 obtain⟨⟨⟨⟨h1,h2⟩,h3⟩,h4⟩,h5⟩:=h
 have i2:=wi.in_t h2
 have i3:=wi.in_t h3
 have i4:=wi.in_t h4
 have hs:=qQ h1
 refine⟨by unfold maxLen;omega,Q7 i2.1 (by omega),Q7 i3.1 (by omega),Q7 i4.1 (by omega),?_⟩
 have hd:x.data.size≤65535:=by
  split at h5
  ·exact of_decide_eq_true h5
  ·rw[Bool.or_eq_true]at h5
   rcases h5 with h | h
   ·unfold wi.Qw at h
    simp only[Bool.and_eq_true,decide_eq_true_eq]at h
    omega
   ·exact chk_size (of_decide_eq_true h)
 unfold maxLen;omega
theorem valid_ok {qf:ByteArray}{L:List Rec}(hv:zn.Valid qf L):∀r∈L,ZA r:=fun r hr=>by
 have h:=hv.each r hr
 have ht:=zn.type_of h.2.1
 have h2:=h.2.1
 unfold zn.jq at h2
 simp only[Bool.not_eq_false',Bool.and_eq_true,decide_eq_true_eq]at h2
 have hs:=qQ h.1
 have hd:=chk_size h2.2
 exact⟨by unfold maxLen;omega,Q7 (by omega) (by omega),Q7 (by omega) (by omega),Q7 (by omega) (by omega),by unfold maxLen;omega⟩
theorem VA {Z:Zn}(hv:Ok Z):∀r∈q8 Z.l,ZA r:=fun r hr=>valid_ok hv r (List.mem_filter.1 hr).1
theorem uo {Z:Zn}(hv:Ok Z):(q8 Z.l).length≤2000:=Nat.le_trans (List.length_filter_le _ _) hv.small
theorem Ku {l m:List Rec}(h:l.length≤2000):(Qs l m).length≤2000:=Nat.le_trans (List.length_filter_le _ _) h
theorem piece_len {a b:Zn}(ha:Ok a)(hb:Ok b):(ZL a b).length≤4002:=by
 have h1:=Ku (m:=q8 b.l) (uo ha);have h2:=Ku (m:=q8 a.l) (uo hb)
 unfold ZL
 simp only[List.length_append,List.length_singleton]
 omega
theorem steps_len {H:List Zn}{k:Nat}:∀n,(∀i,i<n→Ok (qZ H (k+i))∧Ok (qZ H (k+i+1)))→(yK H k n).length≤n*4002
 | 0,_=>by simp[yK]
 | n+1,h=>by
   rw[Yl,List.length_append]
   have h1:=steps_len n fun i hi=>h i (by omega)
   have h2:=piece_len (h n (by omega)).1 (h n (by omega)).2
   omega
end tr
theorem steps_any (base h:Nat)(zs:List Nat)(H:List tr.Zn)(h8:zs.length≤8)(k:Nat)(hk:k<zs.length)(w:World)(hh:vH w base h zs)(hz:Jt w zs H):
 Calls Tryz.prog 70 #[.pointer (some ⟨h,0,none⟩),.int .i64 (k:Int)] w fun e w'=>jV (tr.yH H k) w e w':=by
 obtain⟨n,hn⟩:∃n,n=zs.length:=⟨_,rfl⟩
 obtain⟨n1,hn1⟩:∃n1,n1=n-1:=⟨_,rfl⟩
 have hlen:=hz.1
 have hOK:∀i (hi:i<zs.length),tr.Ok (tr.qZ H i)∧∃top,jc w top zs[i] (tr.qZ H i).ap (tr.qZ H i).l:=fun i hi=>by
  have hiH:i<H.length:=by omega
  rw[tr.ve hiH]
  exact hz.2 i hi hiH
 have hlast:tr.qM H=tr.qZ H n1:=by unfold tr.qM;congr 1;omega
 obtain⟨r,hr⟩:∃r,r=tr.q9 (tr.qZ H n1):=⟨_,rfl⟩
 have hsl:tr.yH H k=([r] ++ tr.yK H k (n1-k)) ++ [r]:=by unfold tr.yH;rw[hlast,← hr];congr 3;omega
 rw[hsl]
 obtain⟨z0,hz0⟩:∃z,z=zs[n1]'(by omega):=⟨_,rfl⟩
 have HZN:=Lib.hid (show ∀X,Below w.heap.size w X→Calls Tryz.prog 31 #[.pointer (some ⟨h,0,none⟩)] X fun e w'=>e= .returned (qX z0)∧Below X.heap.size X w' from fun X hX=>by
  have h1:=Qf base h zs (by omega) (by omega) X (hh.below hX)
  have e:zs[zs.length-1]'(by omega)=z0:=by rw[hz0];congr 1;omega
  rw[e]at h1
  exact h1)
 have HSO:=Lib.hid (show ∀X,Below w.heap.size w X→Calls Tryz.prog 48 #[qX z0] X fun e w'=>e= .returned (yA r)∧Below X.heap.size X w' from fun X hX=>by
  obtain⟨h1,tz,h2⟩:=hOK n1 (by omega)
  rw[hr]
  exact ZH tz z0 _ h1 X (by rw[hz0];exact h2.kept hX))
 have HOK:=Lib.hid hOK;have HH:=Lib.hid hh;have HN:=Lib.hid hn;have HN1:=Lib.hid hn1;have H8:=Lib.hid h8;have HK:=Lib.hid hk
 have HSL:=Lib.hid (show ∀m,k+m≤n1→(tr.yK H k m).length≤40000 from fun m hm=>Nat.le_trans (tr.steps_len m fun i hi=>⟨(hOK _ (by omega)).1,(hOK _ (by omega)).1⟩) (by omega))
 clear hh hz hOK hlast hr hsl hz0 hn hn1 h8 hk hlen
 go_enter Tryz.func70,Tryz.ntmps70
 go_wp2_with fail
 refine(HZN.out w (Below.refl _ _)).mono ?_
 rintro e w1 ⟨rfl,hB1⟩
 have HB1:=Lib.hid hB1
 clear hB1
 go_wp2_with fail
 refine(HSO.out w1 HB1.out).mono ?_
 rintro e w2 ⟨rfl,hB2⟩
 have HB2:=Lib.hid (HB1.out.trans (hB2.mono HB1.out.size))
 clear hB2
 obtain⟨w3,hw⟩:∃X,X=w2.alloc (.cells (recC r).toArray 80):=⟨_,rfl⟩
 obtain⟨hBn,-,-⟩:=zw w2 w3 r hw
 obtain⟨gw3,hg⟩:∃b,b=w2.heap.size:=⟨_,rfl⟩
 have hon:=uR (base:=w.heap.size) r hw HB2.out.size
 rw[← hg]at hon
 have HWw3:=Lib.hid hw;have HGw3:=Lib.hid hg;have HOw3:=Lib.hid hon;have HBNw3:=Lib.hid hBn
 have HBw3:=Lib.hid (HB2.out.trans (hBn.mono HB2.out.size))
 clear hw hg hon hBn
 go_upto_region 2 with fail
 rw[← HWw3.out,← HGw3.out]
 go_loopw [1,5] (fun kv av wr=>∃j:Nat,k≤j∧j≤n1∧kv= .int .i64 (j:Int)∧Hid (wr.ownsRow w.heap.size 80 5 av ([r] ++ tr.yK H k (j-k)).length (qx ([r] ++ tr.yK H k (j-k))))∧Hid (Below w.heap.size w wr)) (fun kv _ _=>n1-(intOf kv).toNat)
 case atStart=>
  refine⟨k,Nat.le_refl _,by have h1:=HK.out;have h2:=HN.out;have h3:=HN1.out;omega,rfl,Lib.hid ?_,HBw3⟩
  rw[Nat.sub_self,show tr.yK H k 0= [] from rfl,List.append_nil]
  exact HOw3.out
 case round=>
  obtain⟨j,hkj,hjn,rfl,HO,HB⟩:=hrel
  obtain⟨w4,hw4⟩:∃X:World,X=wr:=⟨_,rfl⟩
  subst hw4
  obtain⟨P,hP⟩:∃P,P= [r] ++ tr.yK H k (j-k):=⟨_,rfl⟩
  rw[← hP]at HO
  have HPL:=Lib.hid (show P.length≤40001 by rw[hP,List.length_append];have:=HSL.out (j-k) (by omega);simp;omega)
  have HP:=Lib.hid hP
  clear hP
  obtain⟨va,vc,rfl,-⟩:=qm HO.out
  obtain⟨g,cap,hgl,hcap,c0,cz⟩:=(HH.out.below HB.out).cells
  rw[← HN.out]at c0
  have HHN:=HN.out;have HHN1:=HN1.out
  obtain⟨j1,hj1⟩:∃j1,j1=j+1:=⟨_,rfl⟩
  have e1:(j:Int)+1=(j1:Int):=by omega
  have e2:IntKind.i64.wrap (j1:Int)=(j1:Int):=IntWalk.i64_in _ (by have:=H8.out;omega)
  by_cases hlt:j<n1
  ·have i1:(j:Int)<(n:Int):=by omega
   have i2:(j1:Int)<(n:Int):=by omega
   have i3:j<n:=by omega
   have i4:j1<n:=by omega
   obtain⟨za,hza⟩:∃z,z=zs[j]'(by omega):=⟨_,rfl⟩
   obtain⟨zb,hzb⟩:∃z,z=zs[j1]'(by omega):=⟨_,rfl⟩
   have ca:=cz j (by omega)
   have cb:=cz j1 (by omega)
   rw[← hza]at ca
   rw[← hzb]at cb
   obtain⟨A,hA⟩:∃A,A=tr.qZ H j:=⟨_,rfl⟩
   obtain⟨B,hB⟩:∃B,B=tr.qZ H j1:=⟨_,rfl⟩
   obtain⟨ra,hra⟩:∃r,r=tr.q9 A:=⟨_,rfl⟩
   obtain⟨rb,hrb⟩:∃r,r=tr.q9 B:=⟨_,rfl⟩
   obtain⟨ok1,ta,zf1⟩:=HOK.out j (by omega)
   obtain⟨ok2,tb,zf2⟩:=HOK.out j1 (by omega)
   rw[← hA,← hza]at zf1
   rw[← hA]at ok1
   rw[← hB,← hzb]at zf2
   rw[← hB]at ok2
   have HSA:=Lib.hid (show ∀X,Below w.heap.size w X→Calls Tryz.prog 48 #[qX za] X fun e w'=>e= .returned (yA ra)∧Below X.heap.size X w' from fun X hX=>by rw[hra];exact ZH ta za A ok1 X (zf1.kept hX))
   have HSB:=Lib.hid (show ∀X,Below w.heap.size w X→Calls Tryz.prog 48 #[qX zb] X fun e w'=>e= .returned (yA rb)∧Below X.heap.size X w' from fun X hX=>by rw[hrb];exact ZH tb zb B ok2 X (zf2.kept hX))
   have HTA:=Lib.hid (show ∀X,Below w.heap.size w X→Calls Tryz.prog 104 #[qX za] X fun e w'=>jV (tr.q8 A.l) X e w' from fun X hX=>JG ta za A X (zf1.kept hX))
   have HTB:=Lib.hid (show ∀X,Below w.heap.size w X→Calls Tryz.prog 104 #[qX zb] X fun e w'=>jV (tr.q8 B.l) X e w' from fun X hX=>JG tb zb B X (zf2.kept hX))
   have HO1:=Lib.hid ok1;have HO2:=Lib.hid ok2
   have HM1:=Lib.hid (tr.Ku (m:=tr.q8 B.l) (tr.uo ok1));have HM2:=Lib.hid (tr.Ku (m:=tr.q8 A.l) (tr.uo ok2))
   have HEND:=Lib.hid (show [r] ++ tr.yK H k (j1-k)=(((P ++ [ra]) ++ tr.Qs (tr.q8 A.l) (tr.q8 B.l)) ++ [rb]) ++ tr.Qs (tr.q8 B.l) (tr.q8 A.l) by
    rw[show j1-k=(j-k)+1 by omega,tr.Yl,show k+(j-k)=j by omega,← hj1,← hA,← hB,HP.out,hra,hrb]
    unfold tr.ZL
    simp only[List.append_assoc])
   have HJ1:=Lib.hid hj1;have HLT:=Lib.hid hlt;have HKJ:=Lib.hid hkj
   have kc0:=qh c0;have kca:=qh ca;have kcb:=qh cb
   have HC0:=Lib.hid c0
   clear cz hza hzb hA hB hra hrb ok1 ok2 zf1 zf2 ca cb hj1 HHN HHN1 hlt hkj hjn
   go_upto_region 4 with fail
   clear c0
   refine ql (by kernel_rfl) (by kernel_rfl) ?_
   repeat (with_reducible refine wpQuiet_step (fun K hK=>?_);go_simp;(try simp only[undef]);first | (with_reducible refine hK _ ?_;clear hK K))
   refine wpQuiet_nil ?_
   (try simp only[show Value.tuple #[]=undef from rfl])
   intro U hU
   have hBU:Below w4.heap.size w4 U:=by obtain⟨g,rfl⟩:=hU;exact qC _ g
   clear hU
   have HBU:=Lib.hid (HB.out.trans (hBU.mono HB.out.size));have HOU:=Lib.hid (ownsRow_below HO.out hBU)
   clear hBU kc0 kca kcb i1 i2 i3 i4 hgl hcap
   go_wp2_with fail
   refine(HSA.out _ HBU.out).mono ?_
   rintro e w5 ⟨rfl,hBn⟩
   have HBw5:=Lib.hid (HBU.out.trans (hBn.mono HBU.out.size));have HOw5:=Lib.hid (ownsRow_below HOU.out hBn)
   clear hBn
   obtain⟨w6,hw⟩:∃X,X=w5.alloc (.cells (recC ra).toArray 80):=⟨_,rfl⟩
   obtain⟨hBn,-,-⟩:=zw w5 w6 ra hw
   obtain⟨gw6,hg⟩:∃b,b=w5.heap.size:=⟨_,rfl⟩
   have hon:=uR (base:=w.heap.size) ra hw HBw5.out.size
   rw[← hg]at hon
   have HWw6:=Lib.hid hw;have HGw6:=Lib.hid hg;have HOw6:=Lib.hid hon;have HBNw6:=Lib.hid hBn
   have HBw6:=Lib.hid (HBw5.out.trans (hBn.mono HBw5.out.size))
   clear hw hg hon hBn
   have HPw6:=Lib.hid (ownsRow_below HOw5.out HBNw6.out)
   go_wp2_with (at_builtin;rw[← HWw6.out,← HGw6.out];refine zC rfl _ _ rfl w.heap.size _ _ _ rfl HPw6.out _ (jW HOw6.out) _ (qH HOw6.out) rfl (by have:=HPL.out;simp only[List.length_singleton];omega) HBw6.out.size ?_)
   intro vw7 w7 hown hg hn
   have HBw7:=Lib.hid (HBw6.out.grown hg HBw6.out.size (fun j hj=>(HPw6.out.lt j hj).1))
   have hap:=uS rfl rfl hown
   obtain⟨R7,hR⟩:∃R,R=P ++ [ra]:=⟨_,rfl⟩
   rw[← hR]at hap
   have HLR7:=Lib.hid (show R7.length≤40002 by rw[hR,List.length_append,List.length_singleton];have:=HPL.out;omega)
   have HOw7:=Lib.hid hap;have HRR7:=Lib.hid hR
   obtain⟨aw7,cw7,rfl,-⟩:=qm HOw7.out
   clear hown hg hn hap hR
   go_wp2_with fail
   refine(HTA.out _ HBw7.out).mono ?_
   rintro e w8 ⟨vw8,rfl,hBn,hown⟩
   have HBw8:=Lib.hid (HBw7.out.trans (hBn.mono HBw7.out.size));have HOw8:=Lib.hid (ownsRow_below HOw7.out hBn);have HNw8:=Lib.hid hown;have HDw8:=Lib.hid hBn
   obtain⟨aw8,cw8,rfl,-⟩:=qm hown
   clear hBn hown
   go_wp2_with fail
   refine(HTB.out _ HBw8.out).mono ?_
   rintro e w9 ⟨vw9,rfl,hBn,hown⟩
   have HBw9:=Lib.hid (HBw8.out.trans (hBn.mono HBw8.out.size));have HOw9:=Lib.hid (ownsRow_below HOw8.out hBn);have HNw9:=Lib.hid hown;have HDw9:=Lib.hid hBn
   obtain⟨aw9,cw9,rfl,-⟩:=qm hown
   clear hBn hown
   have HNa:=Lib.hid (ownsRow_below HNw8.out HDw9.out)
   go_wp2_with fail
   refine(UA _ _ (tr.uo HO1.out) (tr.uo HO2.out) (tr.VA HO1.out) (tr.VA HO2.out) _ _ w9 (Y0 HNa.out) (qH HNa.out) (qH HNw9.out)).mono ?_
   rintro e w10 ⟨vw10,rfl,hBn,hown⟩
   have HBw10:=Lib.hid (HBw9.out.trans (hBn.mono HBw9.out.size));have HOw10:=Lib.hid (ownsRow_below HOw9.out hBn);have HNw10:=Lib.hid hown;have HDw10:=Lib.hid hBn
   obtain⟨aw10,cw10,rfl,-⟩:=qm hown
   clear hBn hown
   go_wp2_with (at_builtin;refine zC rfl _ _ rfl w.heap.size _ _ _ rfl HOw10.out _ (jW HNw10.out) _ (qH HNw10.out) rfl (by have:=HLR7.out;have:=HM1.out;omega) HBw10.out.size ?_)
   intro vw11 w11 hown hg hn
   have HBw11:=Lib.hid (HBw10.out.grown hg HBw10.out.size (fun j hj=>(HOw10.out.lt j hj).1))
   have hap:=uS rfl rfl hown
   obtain⟨R11,hR⟩:∃R,R=R7 ++ tr.Qs (tr.q8 A.l) (tr.q8 B.l):=⟨_,rfl⟩
   rw[← hR]at hap
   have HLR11:=Lib.hid (show R11.length≤42002 by rw[hR,List.length_append];have:=HLR7.out;have:=HM1.out;omega)
   have HOw11:=Lib.hid hap;have HRR11:=Lib.hid hR
   obtain⟨aw11,cw11,rfl,-⟩:=qm HOw11.out
   clear hown hg hn hap hR
   go_upto_region 6 with fail
   go_wp2_with fail
   refine(HSB.out _ HBw11.out).mono ?_
   rintro e w12 ⟨rfl,hBn⟩
   have HBw12:=Lib.hid (HBw11.out.trans (hBn.mono HBw11.out.size));have HOw12:=Lib.hid (ownsRow_below HOw11.out hBn)
   clear hBn
   obtain⟨w13,hw⟩:∃X,X=w12.alloc (.cells (recC rb).toArray 80):=⟨_,rfl⟩
   obtain⟨hBn,-,-⟩:=zw w12 w13 rb hw
   obtain⟨gw13,hg⟩:∃b,b=w12.heap.size:=⟨_,rfl⟩
   have hon:=uR (base:=w.heap.size) rb hw HBw12.out.size
   rw[← hg]at hon
   have HWw13:=Lib.hid hw;have HGw13:=Lib.hid hg;have HOw13:=Lib.hid hon;have HBNw13:=Lib.hid hBn
   have HBw13:=Lib.hid (HBw12.out.trans (hBn.mono HBw12.out.size))
   clear hw hg hon hBn
   have HPw13:=Lib.hid (ownsRow_below HOw12.out HBNw13.out)
   go_wp2_with (at_builtin;rw[← HWw13.out,← HGw13.out];refine zC rfl _ _ rfl w.heap.size _ _ _ rfl HPw13.out _ (jW HOw13.out) _ (qH HOw13.out) rfl (by have:=HLR11.out;simp only[List.length_singleton];omega) HBw13.out.size ?_)
   intro vw14 w14 hown hg hn
   have HBw14:=Lib.hid (HBw13.out.grown hg HBw13.out.size (fun j hj=>(HPw13.out.lt j hj).1))
   have hap:=uS rfl rfl hown
   obtain⟨R14,hR⟩:∃R,R=R11 ++ [rb]:=⟨_,rfl⟩
   rw[← hR]at hap
   have HLR14:=Lib.hid (show R14.length≤42003 by rw[hR,List.length_append,List.length_singleton];have:=HLR11.out;omega)
   have HOw14:=Lib.hid hap;have HRR14:=Lib.hid hR
   obtain⟨aw14,cw14,rfl,-⟩:=qm HOw14.out
   clear hown hg hn hap hR
   go_wp2_with fail
   refine(HTB.out _ HBw14.out).mono ?_
   rintro e w15 ⟨vw15,rfl,hBn,hown⟩
   have HBw15:=Lib.hid (HBw14.out.trans (hBn.mono HBw14.out.size));have HOw15:=Lib.hid (ownsRow_below HOw14.out hBn);have HNw15:=Lib.hid hown;have HDw15:=Lib.hid hBn
   obtain⟨aw15,cw15,rfl,-⟩:=qm hown
   clear hBn hown
   go_wp2_with fail
   refine(HTA.out _ HBw15.out).mono ?_
   rintro e w16 ⟨vw16,rfl,hBn,hown⟩
   have HBw16:=Lib.hid (HBw15.out.trans (hBn.mono HBw15.out.size));have HOw16:=Lib.hid (ownsRow_below HOw15.out hBn);have HNw16:=Lib.hid hown;have HDw16:=Lib.hid hBn
   obtain⟨aw16,cw16,rfl,-⟩:=qm hown
   clear hBn hown
   have HNb:=Lib.hid (ownsRow_below HNw15.out HDw16.out)
   go_wp2_with fail
   refine(UA _ _ (tr.uo HO2.out) (tr.uo HO1.out) (tr.VA HO2.out) (tr.VA HO1.out) _ _ w16 (Y0 HNb.out) (qH HNb.out) (qH HNw16.out)).mono ?_
   rintro e w17 ⟨vw17,rfl,hBn,hown⟩
   have HBw17:=Lib.hid (HBw16.out.trans (hBn.mono HBw16.out.size));have HOw17:=Lib.hid (ownsRow_below HOw16.out hBn);have HNw17:=Lib.hid hown;have HDw17:=Lib.hid hBn
   obtain⟨aw17,cw17,rfl,-⟩:=qm hown
   clear hBn hown
   go_wp2_with (at_builtin;refine zC rfl _ _ rfl w.heap.size _ _ _ rfl HOw17.out _ (jW HNw17.out) _ (qH HNw17.out) rfl (by have:=HLR14.out;have:=HM2.out;omega) HBw17.out.size ?_)
   intro vw18 w18 hown hg hn
   have HBw18:=Lib.hid (HBw17.out.grown hg HBw17.out.size (fun j hj=>(HOw17.out.lt j hj).1))
   have hap:=uS rfl rfl hown
   obtain⟨R18,hR⟩:∃R,R=R14 ++ tr.Qs (tr.q8 B.l) (tr.q8 A.l):=⟨_,rfl⟩
   rw[← hR]at hap
   have HLR18:=Lib.hid (show R18.length≤44003 by rw[hR,List.length_append];have:=HLR14.out;have:=HM2.out;omega)
   have HOw18:=Lib.hid hap;have HRR18:=Lib.hid hR
   obtain⟨aw18,cw18,rfl,-⟩:=qm HOw18.out
   clear hown hg hn hap hR
   go_wp2_with fail
   have HE2:=Lib.hid (show [r] ++ tr.yK H k (j1-k)=R18 by rw[HEND.out,HRR18.out,HRR14.out,HRR11.out,HRR7.out])
   go_roundw
   case rel=>
    refine⟨j1,?_,?_,?_,Lib.hid ?_,HBw18⟩
    ·have:=HKJ.out;have:=HJ1.out;omega
    ·have:=HLT.out;have:=HJ1.out;omega
    ·rfl
    ·rw[HE2.out];exact HOw18.out
   case measure=>have:=HLT.out;have:=HJ1.out;simp[intOf];omega
  ·obtain rfl:j=n1:=by omega
   have i2:¬((j1:Int)<(n:Int)):=by omega
   have d2:decide ((j1:Int)<(n:Int))=false:=decide_eq_false i2
   have HSZ:=Lib.hid (show ∀X,Below w.heap.size w X→Calls Tryz.prog 31 #[.pointer (some ⟨h,0,none⟩)] X fun e w'=>e= .returned (qX z0)∧Below X.heap.size X w' from HZN.out)
   have Vs:=Lib.hid (show([r] ++ tr.yK H k (j-k)) ++ [r]=P ++ [r] by rw[HP.out])
   clear cz hj1 HHN HHN1 hlt hkj hjn hgl hcap
   go_wp2_with fail
   clear c0
   refine(HSZ.out w4 HB.out).mono ?_
   rintro e w5 ⟨rfl,hB5⟩
   have HB5:=Lib.hid (HB.out.trans (hB5.mono HB.out.size));have HO5:=Lib.hid (ownsRow_below HO.out hB5)
   clear hB5
   go_wp2_with fail
   refine(HSO.out _ HB5.out).mono ?_
   rintro e w6 ⟨rfl,hBn⟩
   have HBw6:=Lib.hid (HB5.out.trans (hBn.mono HB5.out.size));have HOw6:=Lib.hid (ownsRow_below HO5.out hBn)
   clear hBn
   obtain⟨w7,hw⟩:∃X,X=w6.alloc (.cells (recC r).toArray 80):=⟨_,rfl⟩
   obtain⟨hBn,-,-⟩:=zw w6 w7 r hw
   obtain⟨gw7,hg⟩:∃b,b=w6.heap.size:=⟨_,rfl⟩
   have hon:=uR (base:=w.heap.size) r hw HBw6.out.size
   rw[← hg]at hon
   have HWw7:=Lib.hid hw;have HGw7:=Lib.hid hg;have HOw7:=Lib.hid hon;have HBNw7:=Lib.hid hBn
   have HBw7:=Lib.hid (HBw6.out.trans (hBn.mono HBw6.out.size))
   clear hw hg hon hBn
   have HPw7:=Lib.hid (ownsRow_below HOw6.out HBNw7.out)
   go_wp2_with (at_builtin;rw[← HWw7.out,← HGw7.out];refine zC rfl _ _ rfl w.heap.size _ _ _ rfl HPw7.out _ (jW HOw7.out) _ (qH HOw7.out) rfl (by have:=HPL.out;simp only[List.length_singleton];omega) HBw7.out.size ?_)
   intro vw8 w8 hown hg hn
   have HBw8:=Lib.hid (HBw7.out.grown hg HBw7.out.size (fun j hj=>(HPw7.out.lt j hj).1))
   have hap:=uS rfl rfl hown
   obtain⟨R8,hR⟩:∃R,R=P ++ [r]:=⟨_,rfl⟩
   rw[← hR]at hap
   have HLR8:=Lib.hid (show R8.length≤40002 by rw[hR,List.length_append,List.length_singleton];have:=HPL.out;omega)
   have HOw8:=Lib.hid hap;have HRR8:=Lib.hid hR
   obtain⟨aw8,cw8,rfl,-⟩:=qm HOw8.out
   clear hown hg hn hap hR
   go_wp2_with fail
   go_ret
   refine⟨.slice aw8 R8.length cw8,rfl,HBw8.out,?_⟩
   show w8.ownsRow w.heap.size 80 5 (.slice aw8 R8.length cw8) (([r] ++ tr.yK H k (j-k)) ++ [r]).length (qx (([r] ++ tr.yK H k (j-k)) ++ [r]))
   rw[Vs.out,← HRR8.out]
   exact HOw8.out
end Go.Proofs.YtpcmilhjpmlbpaaGreatDoor
namespace Go.Proofs.YtpcmilhjpmlbpaaGreatDoor
open Go.RowKit Go.Shelf nm od
theorem KT {ops:Array Oper}{o:Oper}{a:Act}{w:World}{K:Act→World→Prop}{Q:Exit→Act→World→Prop}{E:Prop}(hgd:o.guard=none)(s x:Operand)
 (ho:o.op= .call { callee:=.builtin .append,args:=#[s,x],argTypes:=#[31,31]})
 (base:Nat) (v:Value) (n:Nat) (xs:List Value) (hs:a.eval s=v) (hown:w.ownsRow base 80 5 v n xs)
 (u:Value) (hf:yU u) (l:List Rec) (hu:qz w u l) (hx:a.eval x=u) (hl:n+l.length≤1000000000) (hbase:base≤w.heap.size)
 (h:∀v' w',w'.ownsRow base 80 5 v' (n+l.length) (xs ++ qx l)→w.grownBy w' v.ownBlock→(∀b,v'.ownBlock=some b→v.ownBlock=some b∨w.heap.size≤b)→K (a.put o.dst v') w'):
 if Region.wanted o (yielded ops a.tmps)=true then Oper.wp Tryz.prog o a w K Q else E:=by
 obtain⟨i,hi,hz,hz1,hz2⟩:=info_parts uY
 rcases hf with rfl | ⟨ad,m,cap,rfl⟩
 ·have h0:l= []:=by
   obtain⟨a',c,hv,_⟩:=hu
   simp only[Value.slice.injEq]at hv
   exact List.eq_nil_of_length_eq_zero hv.2.1.symm
  subst h0
  have hr:=run_append_owned_none (P:=Tryz.prog) w base 31 o.type 80 i 5 Tryz.underlying31 hi v n xs hown
  have hw:Region.wanted o (yielded ops a.tmps)=true:=by simp[Region.wanted,hgd]
  rw[if_pos hw]
  unfold Oper.wp
  simp[execOp,ho,resolve,invoke,builtin,hs,hx,hr,Result.andThen]
  exact h v w (by simpa[qx] using hown) ⟨rfl,rfl,rfl,Nat.le_refl _,fun _ _ _=>rfl⟩ fun b hb=>.inl hb
 ·obtain⟨hn,hc⟩:=Yn hu
  subst hn
  exact Vb hgd s x 31 ho base 80 i (.agg #[.string ⟨#[]⟩,.int .i64 0,.int .i64 0,.int .i64 0,.string ⟨#[]⟩]) 5 56 Tryz.underlying31 hi hz hz1 hz2 rfl (by decide) v n xs hs hown ad l.length cap (qx l) hx (zK l) hc (Zf l)
   (by unfold maxLen;omega) (by omega) hbase h
end Go.Proofs.YtpcmilhjpmlbpaaGreatDoor
