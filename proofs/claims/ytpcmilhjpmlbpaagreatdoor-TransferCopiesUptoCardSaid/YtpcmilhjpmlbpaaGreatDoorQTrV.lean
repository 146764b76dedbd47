import Derived.Test.YtpcmilhjpmlbpaaGreatDoorQCpR
set_option maxRecDepth 100000
set_option maxHeartbeats 4000000
namespace Go.Proofs.YtpcmilhjpmlbpaaGreatDoor
open Go.RowKit Go.Shelf nm od
namespace tr
def Yp (c n:Int):Int:=(if c<0 then -(c+1) else c) % n
theorem Vz (c:Int){n:Int}(hn:0<n):0≤Yp c n∧Yp c n<n:=⟨Int.emod_nonneg _ (by omega),Int.emod_lt_of_pos _ hn⟩
def jF (H:List Zn):Bool:=(List.range H.length).all fun k=>(List.range k).all fun j=>zy (zH (qZ H k)) (zH (qZ H j))
theorem risen_bad {H:List Zn}{k j:Nat}(hk:k<H.length)(hj:j<k)(h:zy (zH (qZ H k)) (zH (qZ H j))=false):jF H=false:=by
 unfold jF
 rw[List.all_eq_false]
 refine⟨k,List.mem_range.2 hk,?_⟩
 rw[Bool.not_eq_true,List.all_eq_false]
 exact⟨j,List.mem_range.2 hj,by rw[h];simp⟩
theorem risen_all {H:List Zn}(h:∀k j,k<H.length→j<k→zy (zH (qZ H k)) (zH (qZ H j))=true):jF H=true:=by
 unfold jF
 rw[List.all_eq_true]
 intro k hk
 rw[List.all_eq_true]
 intro j hj
 exact h k j (List.mem_range.1 hk) (List.mem_range.1 hj)
end tr
theorem V4 (c n:Int)(hc:-9223372036854775808≤c∧c≤9223372036854775807)(hn:0<n∧n≤9223372036854775807)(w:World):
 Calls Tryz.prog 25 #[.int .i64 c,.int .i64 n] w fun e w'=>e= .returned (.int .i64 (tr.Yp c n))∧w'=w:=by
 obtain⟨hc1,hc2⟩:=hc
 obtain⟨hn1,hn2⟩:=hn
 have hb:=tr.Vz c hn1
 obtain⟨m,hm⟩:∃m,m=tr.Yp c n:=⟨_,rfl⟩
 have hn0:¬(n=0):=by omega
 have ew:IntKind.i64.wrap m=m:=IntWalk.i64_in _ (by rw[hm];omega)
 by_cases h:c<0
 ·have e1:IntKind.i64.wrap (c+1)=c+1:=IntWalk.i64_in _ (by omega)
  have e2:IntKind.i64.wrap (-(c+1))= -(c+1):=IntWalk.i64_in _ (by omega)
  have e3:(-(c+1)).tmod n=m:=by rw[Int.tmod_eq_emod_of_nonneg (by omega),hm];unfold tr.Yp;rw[if_pos h]
  have d1:decide (c<0)=true:=decide_eq_true h
  rw[← hm]
  clear hm hb
  go_enter Tryz.func25,Tryz.ntmps25
  go_wp2_with fail
  go_ret
  exact⟨rfl,rfl⟩
 ·have e3:c.tmod n=m:=by rw[Int.tmod_eq_emod_of_nonneg (by omega),hm];unfold tr.Yp;rw[if_neg h]
  have d1:decide (c<0)=false:=decide_eq_false h
  rw[← hm]
  clear hm hb
  go_enter Tryz.func25,Tryz.ntmps25
  go_wp2_with fail
  go_ret
  exact⟨rfl,rfl⟩
theorem risen_any (v:Value)(ys:List Nat)(H:List tr.Zn)(h8:ys.length≤8)(w:World)(hh:vF w v ys)(hz:ZW w ys H):
 Calls Tryz.prog 27 #[v] w fun e w'=>e= .returned (.bool (tr.jF H))∧Below w.heap.size w w':=by
 obtain⟨n,hn⟩:∃n,n=ys.length:=⟨_,rfl⟩
 have hlen:=hz.1
 have hOK:∀i (hi:i<ys.length),tr.Ok (tr.qZ H i)∧QQ w ys[i] (tr.qZ H i).ap (tr.qZ H i).l:=fun i hi=>by
  have hiH:i<H.length:=by omega
  rw[tr.ve hiH]
  exact⟨(hz.2 i hi hiH).1,(hz.2 i hi hiH).2.2⟩
 obtain⟨g,off,cap,rfl,hcap,hgl,cz⟩:=id hh
 have HOK:=Lib.hid hOK;have HN:=Lib.hid hn;have H8:=Lib.hid h8;have HLN:=Lib.hid hlen
 have HCZ:=Lib.hid (show ∀X,Below w.heap.size w X→∀k (hk:k<ys.length),X.cell? ⟨g,off+k,none⟩=some (qX ys[k]) from fun X hX k hk=>(hX.cell (p:=⟨g,off+k,none⟩) hgl).trans (cz k hk))
 obtain⟨rb,hrb⟩:∃b,b=tr.jF H:=⟨_,rfl⟩
 have HRB:=Lib.hid hrb
 rw[← hn,← hrb]
 clear hh hz hOK hn h8 hlen cz hgl hcap hrb
 go_enter Tryz.func27,Tryz.ntmps27
 go_wp2_with fail
 go_loopw [7] (fun kv wr=>∃k:Nat,k≤n∧kv= .int .i64 (k:Int)∧Hid (∀i j,i<k→j<i→tr.zy (tr.zH (tr.qZ H i)) (tr.zH (tr.qZ H j))=true)∧Hid (Below w.heap.size w wr)) (fun kv _=>n-(intOf kv).toNat)
 case atStart=>exact⟨0,Nat.zero_le _,rfl,Lib.hid (fun i j h=>absurd h (Nat.not_lt_zero _)),Lib.hid (Below.refl _ _)⟩
 case round=>
  obtain⟨k,hk,rfl,HA,HB⟩:=hrel
  obtain⟨w3,hw3⟩:∃X:World,X=wr:=⟨_,rfl⟩
  subst hw3
  by_cases hlt:k<n
  ·have hki:(k:Int)<(n:Int):=by omega
   have ew:IntKind.i64.wrap ((k:Int)+1)=(k:Int)+1:=IntWalk.i64_in _ (by have:=H8.out;have:=HN.out;omega)
   have hkn:k<ys.length:=by rw[← HN.out];exact hlt
   obtain⟨yk,hyk⟩:∃y,y=ys[k]:=⟨_,rfl⟩
   obtain⟨A,hA⟩:∃A,A=tr.qZ H k:=⟨_,rfl⟩
   obtain⟨ok1,zf1⟩:=HOK.out k hkn
   rw[← hA,← hyk]at zf1
   rw[← hA]at ok1
   have HCK:=Lib.hid (show ∀X,Below w.heap.size w X→X.cell? ⟨g,off+k,none⟩=some (qX yk) from fun X hX=>by rw[hyk];exact HCZ.out X hX k hkn)
   have HSA:=Lib.hid (show ∀X,Below w.heap.size w X→Calls Tryz.prog 57 #[qX yk] X fun e w'=>e= .returned (.int .i64 (tr.zH A))∧Below X.heap.size X w' from fun X hX=>Ym yk A ok1 X (zf1.below hX))
   have HAA:=Lib.hid hA;have HKN:=Lib.hid hkn;have HLT:=Lib.hid hlt
   clear hyk hA ok1 zf1 hkn
   go_wp2_with fail
   go_loopw [4] (fun kv wr=>∃j:Nat,j≤k∧kv= .int .i64 (j:Int)∧Hid (∀i,i<j→tr.zy (tr.zH A) (tr.zH (tr.qZ H i))=true)∧Hid (Below w.heap.size w wr)) (fun kv _=>k-(intOf kv).toNat)
   case atStart=>exact⟨0,Nat.zero_le _,rfl,Lib.hid (fun i h=>absurd h (Nat.not_lt_zero _)),HB⟩
   case round=>
    obtain⟨j,hj,rfl,HI,HJ⟩:=hrel
    obtain⟨w4,hw4⟩:∃X:World,X=wr:=⟨_,rfl⟩
    subst hw4
    by_cases hjk:j<k
    ·have hjk2:(j:Int)<(k:Int):=by omega
     have hjn:(j:Int)<(n:Int):=by omega
     have ew2:IntKind.i64.wrap ((j:Int)+1)=(j:Int)+1:=IntWalk.i64_in _ (by have:=H8.out;have:=HN.out;omega)
     have hjy:j<ys.length:=by have:=HKN.out;omega
     have hjn3:j<n:=by omega
     have cb:=HCZ.out w4 HJ.out j hjy
     have ca:=HCK.out w4 HJ.out
     obtain⟨yj,hyj⟩:∃y,y=ys[j]:=⟨_,rfl⟩
     rw[← hyj]at cb
     obtain⟨B,hB⟩:∃B,B=tr.qZ H j:=⟨_,rfl⟩
     obtain⟨ok2,zf2⟩:=HOK.out j hjy
     rw[← hB,← hyj]at zf2
     rw[← hB]at ok2
     obtain⟨nb,hnb⟩:∃b,b=tr.zy (tr.zH A) (tr.zH B):=⟨_,rfl⟩
     have CA:Hid (∀p,Calls Tryz.prog 57 #[qX yk] (gw w4 p) fun e w''=>e= .returned (.int .i64 (tr.zH A))∧∃p',w''=gw w4 p'):=Lib.hid fun p=>qU (HSA.out _ (HJ.out.trans ((qC w4 p).mono HJ.out.size)))
     have CB:Hid (∀p,Calls Tryz.prog 57 #[qX yj] (gw w4 p) fun e w''=>e= .returned (.int .i64 (tr.zH B))∧∃p',w''=gw w4 p'):=Lib.hid fun p=>qU (Ym yj B ok2 _ (zf2.below (HJ.out.trans ((qC w4 p).mono HJ.out.size))))
     have CN:Hid (∀p,Calls Tryz.prog 9 #[.int .i64 (tr.zH A),.int .i64 (tr.zH B)] (gw w4 p) fun e w''=>e= .returned (.bool nb)∧∃p',w''=gw w4 p'):=Lib.hid fun p=>qU ((VR (tr.zH A) (tr.zH B) _).mono fun e w' h=>⟨by rw[hnb];exact h.1,by rw[h.2];exact Below.refl _ _⟩)
     have HNB:=Lib.hid hnb;have HBB:=Lib.hid hB;have HJK:=Lib.hid hjk
     have k0:=qh ca;have k1:=qh cb
     clear hyj hB ok2 zf2 hnb ca cb hjy
     go_upto_region 7 with fail
     refine ql (by kernel_rfl) (by kernel_rfl) ?_
     repeat (with_reducible refine wpQuiet_step (fun K hK=>?_);go_simp;(try simp only[undef]);first | (with_reducible refine hK _ ?_;clear hK K) | (apply Exists.intro;refine⟨fun _=>?_,hK _ ?_⟩;(first | (go_at_call 57;with_reducible exact CA.out _) | (go_at_call 57;with_reducible exact CB.out _) | (go_at_call 9;with_reducible exact CN.out _));clear hK K) | (with_reducible refine⟨fun _ h=>(by cases h),?_⟩;with_reducible refine hK _ ?_;clear hK K))
     refine wpQuiet_nil ?_
     (try simp only[show Value.tuple #[]=undef from rfl])
     intro U hU
     have hBU:Below w4.heap.size w4 U:=by obtain⟨g,rfl⟩:=hU;exact qC _ g
     clear hU
     have HBU:=Lib.hid (HJ.out.trans (hBU.mono HJ.out.size))
     clear hBU k0 k1
     cases nb
     ·have HF:=Lib.hid (show rb=false by
       rw[HRB.out]
       exact tr.risen_bad (k:=k) (j:=j) (by rw[← HLN.out];exact HKN.out) HJK.out (by rw[← HAA.out,← HBB.out];exact HNB.out.symm))
      go_wp2_with fail
      go_ret
      exact⟨qI HF.out.symm,HBU.out⟩
     ·have HE:=Lib.hid (show ∀i,i<j+1→tr.zy (tr.zH A) (tr.zH (tr.qZ H i))=true from fun i hi=>by
       rcases Nat.lt_or_ge i j with h | h
       ·exact HI.out i h
       ·obtain rfl:i=j:=by omega
        rw[← HBB.out];exact HNB.out.symm)
      go_wp2_with fail
      go_roundw
      case rel=>exact⟨j+1,by omega,by go_num,HE,HBU⟩
      case measure=>simp[intOf];omega
    ·obtain rfl:j=k:=by omega
     have HE:=Lib.hid (show ∀i q,i<j+1→q<i→tr.zy (tr.zH (tr.qZ H i)) (tr.zH (tr.qZ H q))=true from fun i q hi hq=>by
      rcases Nat.lt_or_ge i j with h | h
      ·exact HA.out i q h hq
      ·obtain rfl:i=j:=by omega
       rw[← HAA.out];exact HI.out q hq)
     clear hjk
     go_wp2_with fail
     go_roundw
     case rel=>exact⟨j+1,by omega,by go_num,HE,HJ⟩
     case measure=>simp[intOf];omega
  ·obtain rfl:k=n:=by omega
   have HF:=Lib.hid (show rb=true by
    rw[HRB.out]
    exact tr.risen_all fun i j hi hj=>HA.out i j (by rw[HN.out,HLN.out];exact hi) hj)
   clear hlt
   go_wp2_with fail
   go_ret
   exact⟨qI HF.out.symm,HB.out⟩
end Go.Proofs.YtpcmilhjpmlbpaaGreatDoor
