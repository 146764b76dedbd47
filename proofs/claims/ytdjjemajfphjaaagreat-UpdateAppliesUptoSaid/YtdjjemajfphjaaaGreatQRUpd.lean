import Derived.Test.YtdjjemajfphjaaaGreatQUpdG
import Derived.Test.YtdjjemajfphjaaaGreatQRzE
import Derived.Deep.CutBlock
set_option maxRecDepth 100000
set_option maxHeartbeats 8000000
namespace Go.Proofs.YtdjjemajfphjaaaGreat
open Go.RowKit Go.Shelf nm od
namespace up
theorem chg_out {qf:ByteArray}{x:Rec}(h:qU x.owner qf=false):yc qf x=10:=by unfold yc;rw[if_pos h]
theorem chg_in {qf:ByteArray}{x:Rec}(h:qU x.owner qf=true)(h1:x.cls=1):yc qf x=if x.ttl≤2147483647 then 0 else 1:=by
 unfold yc;rw[if_neg (by rw[h];simp),if_pos h1]
theorem chg_any {qf:ByteArray}{x:Rec}(h:qU x.owner qf=true)(h1:x.cls=255):yc qf x=if x.ttl=0∧x.data.size=0∧(dt.yo x.typ ⟨#[]⟩≠6∨x.typ=255) then 0 else 1:=by
 unfold yc;rw[if_neg (by rw[h];simp),if_neg (by omega),if_pos h1]
theorem chg_no {qf:ByteArray}{x:Rec}(h:qU x.owner qf=true)(h1:x.cls=254):yc qf x=if x.ttl=0∧dt.yo x.typ x.data=0 then 0 else 1:=by
 unfold yc;rw[if_neg (by rw[h];simp),if_neg (by omega),if_neg (by omega),if_pos h1]
theorem chg_else {qf:ByteArray}{x:Rec}(h:qU x.owner qf=true)(h1:x.cls≠1)(h2:x.cls≠255)(h3:x.cls≠254):yc qf x=1:=by
 unfold yc;rw[if_neg (by rw[h];simp),if_neg h1,if_neg h2,if_neg h3]
end up
theorem among_any (l:List Rec)(hl:l.length≤1000000)(hsz:∀r∈l,r.owner.size≤1099511627776)(y:Rec)(hy:y.owner.size≤1099511627776)(v:Value)(w:World)(hrv:qy w v l):
 Calls Tryz.prog 80 #[v,zB y] w fun e w'=>e= .returned (.bool (l.any fun x=>zn.qW x y))∧Below w.heap.size w w':=by
 obtain⟨wy,hwy⟩:∃W,W=w.alloc (.cells (recC y).toArray 51):=⟨_,rfl⟩
 obtain⟨hBy,hsy,hxy⟩:=qM w wy y hwy
 obtain⟨by_,hby⟩:∃b,b=w.heap.size:=⟨_,rfl⟩
 rw[← hby]at hxy
 have vW:by_<wy.heap.size:=by omega
 have HV:=Lib.hid (hrv.below hBy)
 obtain⟨va,vc,rfl,-⟩:=id hrv
 obtain⟨sb,hsb⟩:∃sb,sb=l.any fun x=>zn.qW x y:=⟨_,rfl⟩
 rw[← hsb]
 have HSB:=Lib.hid hsb;have HWY:=Lib.hid hwy;have HBY:=Lib.hid hBy;have HXY:=Lib.hid hxy;have HYY:=Lib.hid hby;have HYL:=Lib.hid vW;have HS:=Lib.hid hsz
 clear hsb hwy hBy hsy hxy hby vW hrv hsz
 go_enter Tryz.func80,Tryz.ntmps80
 go_upto_region 1 with fail
 rw[← HWY.out,← HYY.out]
 go_wp2_with fail
 go_loopw [9] (fun kv wr=>∃k:Nat,k≤l.length∧kv= .int .i64 (k:Int)∧Hid ((∀j (hj:j<l.length),j<k→zn.qW l[j] y=false)∧Below wy.heap.size wy wr)) (fun kv _=>l.length-(intOf kv).toNat)
 case atStart=>exact⟨0,Nat.zero_le _,rfl,Lib.hid ⟨fun j hj h=>absurd h (Nat.not_lt_zero _),Below.refl _ _⟩⟩
 case round=>
  obtain⟨k,hk,rfl,HR⟩:=hrel
  obtain⟨w3,hw3⟩:∃X:World,X=wr:=⟨_,rfl⟩
  subst hw3
  by_cases hlt:k<l.length
  ·have hm:l[k].owner.size≤1099511627776:=HS.out _ (List.getElem_mem hlt)
   have HM:=Lib.hid hm
   clear hm
   have hki:(k:Int)<(l.length:Int):=by omega
   obtain⟨_,_,hv,_,hr0⟩:=HV.out.below HR.out.2
   simp only[Value.slice.injEq,true_and]at hv
   obtain⟨rfl,rfl⟩:=hv
   obtain⟨bb,off,rfl,hbl,c0,c1,c2,c3,c4⟩:=hr0 k hlt
   obtain⟨x,hx⟩:∃x,x=l[k]:=⟨_,rfl⟩
   rw[← hx]at c0 c1 c2 c3 c4
   obtain⟨wa,hwa⟩:∃W,W=w3.alloc (.cells (recC x).toArray 51):=⟨_,rfl⟩
   obtain⟨hBa,hsa,hxa⟩:=qM w3 wa x hwa
   obtain⟨bx,hbx⟩:∃b,b=w3.heap.size:=⟨_,rfl⟩
   rw[← hbx]at hxa
   have zU:bx<wa.heap.size:=by omega
   obtain⟨x0,x1,x2,x3,x4⟩:=id hxa
   have HWA:=Lib.hid hwa;have HX:=Lib.hid hx;have HLT:=Lib.hid hlt;have HXA:=Lib.hid hxa;have HBX:=Lib.hid hbx;have yH:=Lib.hid zU
   have HB4:=Lib.hid (HR.out.2.trans (hBa.mono HR.out.2.size))
   clear hwa hx hBa hsa hr0 hbl hxa hbx zU
   go_upto_region 4 with fail
   rw[← HWA.out,← HBX.out]
   clear c0 c1 c2 c3 c4
   have hxs:x.owner.size≤1099511627776:=by rw[HX.out];exact HM.out
   obtain⟨y0,y1,y2,y3,y4⟩:=HXY.out.keep (HB4.out.block by_ HYL.out)
   go_wp2_with fail
   refine(xz x y hxs hy _).mono ?_
   rintro e w5 ⟨rfl,hB5⟩
   have HB5:=Lib.hid (HB4.out.trans (hB5.mono HB4.out.size))
   clear hB5 x0 x1 x2 x3 x4 y0 y1 y2 y3 y4
   obtain⟨ab,hab⟩:∃ab,ab=zn.qW x y:=⟨_,rfl⟩
   rw[← hab]
   have HAB:=Lib.hid hab
   clear hab
   cases ab
   ·go_wp2_with fail
    go_roundw
    case rel=>
     refine⟨k+1,by omega,by go_num,Lib.hid ⟨fun j hj h=>?_,HB5.out⟩⟩
     rcases Nat.lt_or_ge j k with h2 | h2
     ·exact HR.out.1 j hj h2
     ·obtain rfl:j=k:=by omega
      exact(congrArg (fun z=>zn.qW z y) HX.out.symm).trans HAB.out.symm
    case measure=>simp[intOf];omega
   ·have HE:=Lib.hid (show sb=true by
     rw[HSB.out,List.any_eq_true]
     exact⟨_,List.getElem_mem HLT.out,(congrArg (fun z=>zn.qW z y) HX.out.symm).trans HAB.out.symm⟩)
    go_wp2_with fail
    go_ret
    exact⟨qA HE.out.symm,HBY.out.trans (HB5.out.mono HBY.out.size)⟩
  ·obtain rfl:k=l.length:=by omega
   have HE:=Lib.hid (show sb=false by
    rw[HSB.out,List.any_eq_false]
    intro x hx
    obtain⟨j,hj,rfl⟩:=List.getElem_of_mem hx
    rw[HR.out.1 j hj hj]
    simp)
   clear hlt
   go_wp2_with fail
   go_ret
   exact⟨qA HE.out.symm,HBY.out.trans (HR.out.2.mono HBY.out.size)⟩
theorem rchanges_any (z:Nat)(qf:ByteArray)(hap:qf.size≤1099511627776)(L c:List Rec)(hl:c.length≤1000000)(hsz:∀x∈c,x.owner.size≤1099511627776)(v:Value)(w:World)(hrv:qy w v c)(hz:vO w z qf L):
 Calls Tryz.prog 37 #[.pointer (some ⟨z,0,none⟩),v] w fun e w'=>e= .returned (.int .i64 (up.jl (up.yc qf) c))∧Below w.heap.size w w':=by
 have HZ:=Lib.hid (show ∀X,Below w.heap.size w X→X.cell? ⟨z,0,none⟩=some (.string qf) from fun X hX=>by
  obtain⟨g,cap,h1,_⟩:=hz
  rw[qg ((hX.block z (qw h1)).trans h1)];rfl)
 have HV:=Lib.hid hrv
 obtain⟨va,vc,rfl,-⟩:=id hrv
 have HS:=Lib.hid hsz
 clear hrv hz hsz
 go_enter Tryz.func37,Tryz.ntmps37
 go_wp2_with fail
 go_loopw [10] (fun kv wr=>∃k:Nat,k≤c.length∧kv= .int .i64 (k:Int)∧Hid ((∀j (hj:j<c.length),j<k→up.yc qf c[j]=0)∧Below w.heap.size w wr)) (fun kv _=>c.length-(intOf kv).toNat)
 case atStart=>exact⟨0,Nat.zero_le _,rfl,Lib.hid ⟨fun j hj h=>absurd h (Nat.not_lt_zero _),Below.refl _ _⟩⟩
 case round=>
  obtain⟨k,hk,rfl,HR⟩:=hrel
  obtain⟨w3,hw3⟩:∃X:World,X=wr:=⟨_,rfl⟩
  subst hw3
  by_cases hlt:k<c.length
  ·have hm:c[k].owner.size≤1099511627776:=HS.out _ (List.getElem_mem hlt)
   have HM:=Lib.hid hm
   clear hm
   have hki:(k:Int)<(c.length:Int):=by omega
   obtain⟨_,_,hv,_,hr0⟩:=HV.out.below HR.out.2
   simp only[Value.slice.injEq,true_and]at hv
   obtain⟨rfl,rfl⟩:=hv
   obtain⟨bb,off,rfl,hbl,c0,c1,c2,c3,c4⟩:=hr0 k hlt
   obtain⟨x,hx⟩:∃x,x=c[k]:=⟨_,rfl⟩
   rw[← hx]at c0 c1 c2 c3 c4
   obtain⟨wa,hwa⟩:∃W,W=w3.alloc (.cells (recC x).toArray 51):=⟨_,rfl⟩
   obtain⟨hBa,hsa,hxa⟩:=qM w3 wa x hwa
   obtain⟨bx,hbx⟩:∃b,b=w3.heap.size:=⟨_,rfl⟩
   rw[← hbx]at hxa
   have zU:bx<wa.heap.size:=by omega
   obtain⟨x0,x1,x2,x3,x4⟩:=id hxa
   have HWA:=Lib.hid hwa;have HX:=Lib.hid hx;have HLT:=Lib.hid hlt;have HXA:=Lib.hid hxa;have HBX:=Lib.hid hbx;have yH:=Lib.hid zU
   have HB4:=Lib.hid (HR.out.2.trans (hBa.mono HR.out.2.size))
   clear hwa hx hBa hsa hr0 hbl hxa hbx zU
   go_upto_region 4 with fail
   rw[← HWA.out,← HBX.out]
   clear c0 c1 c2 c3 c4
   have hxs:x.owner.size≤1099511627776:=by rw[HX.out];exact HM.out
   have z0:=HZ.out wa HB4.out
   obtain⟨ib,hib⟩:∃ib,ib=qU x.owner qf:=⟨_,rfl⟩
   have CW:Hid (∀p,Calls Tryz.prog 77 #[.string x.owner,.string qf] (gw wa p) fun e w''=>e= .returned (.bool ib)∧∃p',w''=gw wa p'):=Lib.hid fun p=>by rw[hib];exact qL (jL x.owner qf hxs hap _)
   have k0:=qh x0;have kz:=qh z0
   have HIB:=Lib.hid hib
   clear hib hxs z0
   refine qj (by kernel_rfl) (by kernel_rfl) ?_
   repeat (with_reducible refine wpQuiet_step (fun K hK=>?_);go_simp;(try simp only[undef]);first | (with_reducible refine hK _ ?_;clear hK K) | (apply Exists.intro;refine⟨fun _=>?_,hK _ ?_⟩;(first | (go_at_call 77;with_reducible exact CW.out _));clear hK K) | (with_reducible refine⟨fun _ h=>(by cases h),?_⟩;with_reducible refine hK _ ?_;clear hK K))
   refine wpQuiet_nil ?_
   (try simp only[show Value.tuple #[]=undef from rfl])
   intro W hW
   have hBW:Below wa.heap.size wa W:=by obtain⟨g,rfl⟩:=hW;exact qp _ g
   clear hW
   obtain⟨y0,y1,y2,y3,y4⟩:=HXA.out.keep (hBW.block bx yH.out)
   have HB5:=Lib.hid (HB4.out.trans (hBW.mono HB4.out.size))
   have V8:=Lib.hid (show bx<W.heap.size from Nat.lt_of_lt_of_le yH.out hBW.size)
   have HXW:=Lib.hid (HXA.out.keep (hBW.block bx yH.out))
   clear hBW k0 kz x0 x1 x2 x3 x4
   cases ib
   ·have hc:=up.chg_out (x:=x) HIB.out.symm
    have HFI:=Lib.hid (show up.jl (up.yc qf) c=10 by
     have h:=up.uY (f:=up.yc qf) HLT.out HR.out.1 (by rw[← HX.out];rw[hc];simp)
     rw[h,← HX.out];exact hc)
    clear hc
    go_wp2_with fail
    go_ret
    exact⟨qH HFI.out.symm,HB5.out⟩
   ·go_wp2_with fail
    refine(jS _ _ _).mono ?_
    rintro e w6 ⟨rfl,hB6⟩
    obtain⟨z0,z1,z2,z3,z4⟩:=HXW.out.keep (hB6.block bx V8.out)
    have HB6:=Lib.hid (HB5.out.trans (hB6.mono HB5.out.size))
    clear hB6 y0 y1 y2 y3 y4
    obtain⟨t0,ht0⟩:∃t,t=dt.yo x.typ ⟨#[]⟩:=⟨_,rfl⟩
    rw[← ht0]
    obtain⟨tb,htb⟩:∃tb,tb=(t0 != 6):=⟨_,rfl⟩
    have e6:(t0 != 6)=tb:=htb.symm
    have HT0:=Lib.hid ht0;have HTB:=Lib.hid htb
    clear ht0 htb
    by_cases k1:x.cls=1
    ·have d1:(x.cls == 1)=true:=by rw[beq_iff_eq];exact k1
     have hc0:=up.chg_in (x:=x) HIB.out.symm k1
     by_cases m1:2147483647<x.ttl
     ·have d2:decide (2147483647<x.ttl)=true:=decide_eq_true m1
      have hc:up.yc qf x=1:=by rw[hc0,if_neg (by omega)]
      have HFI:=Lib.hid (show up.jl (up.yc qf) c=1 by
       have h:=up.uY (f:=up.yc qf) HLT.out HR.out.1 (by rw[← HX.out];rw[hc];simp)
       rw[h,← HX.out];exact hc)
      clear hc hc0 k1 m1
      go_wp2_with fail
      go_ret
      exact⟨qH HFI.out.symm,HB6.out⟩
     ·have d2:decide (2147483647<x.ttl)=false:=decide_eq_false m1
      have hc:up.yc qf x=0:=by rw[hc0,if_pos (by omega)]
      have HG0:=Lib.hid (show up.yc qf x=0 from hc)
      have HBn:=Lib.hid HB6.out
      clear hc hc0 k1 m1
      go_wp2_with fail
      go_roundw
      case rel=>
       have hrel:∀j (hj:j<c.length),j<k+1→up.yc qf c[j]=0:=fun j hj h=>by
        rcases Nat.lt_or_ge j k with h2 | h2
        ·exact HR.out.1 j hj h2
        ·obtain rfl:j=k:=by omega
         exact(congrArg (up.yc qf) HX.out.symm).trans HG0.out
       first
        | exact⟨k+1,by omega,by go_num,Lib.hid ⟨hrel,HBn.out⟩⟩
        | (repeat apply Exists.intro
           refine And.intro ?_ ?_
           rotate_left
           ·repeat (first | exact rfl | refine And.intro rfl ?_)
           exact⟨k+1,by omega,by go_num,Lib.hid ⟨hrel,HBn.out⟩⟩)
      case measure=>simp[intOf];omega
    ·have d1:(x.cls == 1)=false:=by rw[beq_eq_false_iff_ne];exact k1
     by_cases k2:x.cls=255
     ·have d2:(x.cls == 255)=true:=by rw[beq_iff_eq];exact k2
      have hc0:=up.chg_any (x:=x) HIB.out.symm k2
      by_cases m1:x.ttl=0
      ·have d3:(x.ttl != 0)=false:=by rw[bne_eq_false_iff_eq];exact m1
       by_cases m2:x.data.size=0
       ·have d4:=yg m2
        cases tb
        ·have h6:dt.yo x.typ ⟨#[]⟩=6:=by rw[← HT0.out];exact bne_eq_false_iff_eq.1 HTB.out.symm
         by_cases m3:x.typ=255
         ·have d5:(x.typ != 255)=false:=by rw[bne_eq_false_iff_eq];exact m3
          have hc:up.yc qf x=0:=by rw[hc0,if_pos ⟨m1,m2,.inr m3⟩]
          have HG0:=Lib.hid (show up.yc qf x=0 from hc)
          have HBn:=Lib.hid HB6.out
          clear hc hc0 k1 k2 m1 m2 m3 h6
          go_wp2_with fail
          go_roundw
          case rel=>
           have hrel:∀j (hj:j<c.length),j<k+1→up.yc qf c[j]=0:=fun j hj h=>by
            rcases Nat.lt_or_ge j k with h2 | h2
            ·exact HR.out.1 j hj h2
            ·obtain rfl:j=k:=by omega
             exact(congrArg (up.yc qf) HX.out.symm).trans HG0.out
           first
            | exact⟨k+1,by omega,by go_num,Lib.hid ⟨hrel,HBn.out⟩⟩
            | (repeat apply Exists.intro
               refine And.intro ?_ ?_
               rotate_left
               ·repeat (first | exact rfl | refine And.intro rfl ?_)
               exact⟨k+1,by omega,by go_num,Lib.hid ⟨hrel,HBn.out⟩⟩)
          case measure=>simp[intOf];omega
         ·have d5:(x.typ != 255)=true:=by rw[bne_iff_ne];exact m3
          have hc:up.yc qf x=1:=by rw[hc0,if_neg (fun h=>h.2.2.elim (fun g=>g h6) m3)]
          have HFI:=Lib.hid (show up.jl (up.yc qf) c=1 by
           have h:=up.uY (f:=up.yc qf) HLT.out HR.out.1 (by rw[← HX.out];rw[hc];simp)
           rw[h,← HX.out];exact hc)
          clear hc hc0 k1 k2 m1 m2 m3 h6
          go_wp2_with fail
          go_ret
          exact⟨qH HFI.out.symm,HB6.out⟩
        ·have h6:dt.yo x.typ ⟨#[]⟩≠6:=by rw[← HT0.out];exact bne_iff_ne.1 HTB.out.symm
         have hc:up.yc qf x=0:=by rw[hc0,if_pos ⟨m1,m2,.inl h6⟩]
         have HG0:=Lib.hid (show up.yc qf x=0 from hc)
         have HBn:=Lib.hid HB6.out
         clear hc hc0 k1 k2 m1 m2 h6
         go_wp2_with fail
         go_roundw
         case rel=>
          have hrel:∀j (hj:j<c.length),j<k+1→up.yc qf c[j]=0:=fun j hj h=>by
           rcases Nat.lt_or_ge j k with h2 | h2
           ·exact HR.out.1 j hj h2
           ·obtain rfl:j=k:=by omega
            exact(congrArg (up.yc qf) HX.out.symm).trans HG0.out
          first
           | exact⟨k+1,by omega,by go_num,Lib.hid ⟨hrel,HBn.out⟩⟩
           | (repeat apply Exists.intro
              refine And.intro ?_ ?_
              rotate_left
              ·repeat (first | exact rfl | refine And.intro rfl ?_)
              exact⟨k+1,by omega,by go_num,Lib.hid ⟨hrel,HBn.out⟩⟩)
         case measure=>simp[intOf];omega
       ·have d4:=yF m2
        have hc:up.yc qf x=1:=by rw[hc0,if_neg (fun h=>m2 h.2.1)]
        have HFI:=Lib.hid (show up.jl (up.yc qf) c=1 by
         have h:=up.uY (f:=up.yc qf) HLT.out HR.out.1 (by rw[← HX.out];rw[hc];simp)
         rw[h,← HX.out];exact hc)
        clear hc hc0 k1 k2 m1 m2
        go_wp2_with fail
        go_ret
        exact⟨qH HFI.out.symm,HB6.out⟩
      ·have d3:(x.ttl != 0)=true:=by rw[bne_iff_ne];exact m1
       have hc:up.yc qf x=1:=by rw[hc0,if_neg (fun h=>m1 h.1)]
       have HFI:=Lib.hid (show up.jl (up.yc qf) c=1 by
        have h:=up.uY (f:=up.yc qf) HLT.out HR.out.1 (by rw[← HX.out];rw[hc];simp)
        rw[h,← HX.out];exact hc)
       clear hc hc0 k1 k2 m1
       go_wp2_with fail
       go_ret
       exact⟨qH HFI.out.symm,HB6.out⟩
     ·have d2:(x.cls == 255)=false:=by rw[beq_eq_false_iff_ne];exact k2
      by_cases k3:x.cls=254
      ·have d3:(x.cls == 254)=true:=by rw[beq_iff_eq];exact k3
       have hc0:=up.chg_no (x:=x) HIB.out.symm k3
       by_cases m1:x.ttl=0
       ·have d4:(x.ttl != 0)=false:=by rw[bne_eq_false_iff_eq];exact m1
        have HK0:=Lib.hid hc0;have HM1:=Lib.hid m1
        clear hc0 k1 k2 k3 m1
        go_wp2_with fail
        refine(jS _ _ _).mono ?_
        rintro e w7 ⟨rfl,hB7⟩
        have HB7:=Lib.hid (HB6.out.trans (hB7.mono HB6.out.size))
        clear hB7 z0 z1 z2 z3 z4
        by_cases m2:dt.yo x.typ x.data=0
        ·have d5:(dt.yo x.typ x.data != 0)=false:=by rw[bne_eq_false_iff_eq];exact m2
         have hc:up.yc qf x=0:=by rw[HK0.out,if_pos ⟨HM1.out,m2⟩]
         have HG0:=Lib.hid (show up.yc qf x=0 from hc)
         have HBn:=Lib.hid HB7.out
         clear hc m2
         go_wp2_with fail
         go_roundw
         case rel=>
          have hrel:∀j (hj:j<c.length),j<k+1→up.yc qf c[j]=0:=fun j hj h=>by
           rcases Nat.lt_or_ge j k with h2 | h2
           ·exact HR.out.1 j hj h2
           ·obtain rfl:j=k:=by omega
            exact(congrArg (up.yc qf) HX.out.symm).trans HG0.out
          first
           | exact⟨k+1,by omega,by go_num,Lib.hid ⟨hrel,HBn.out⟩⟩
           | (repeat apply Exists.intro
              refine And.intro ?_ ?_
              rotate_left
              ·repeat (first | exact rfl | refine And.intro rfl ?_)
              exact⟨k+1,by omega,by go_num,Lib.hid ⟨hrel,HBn.out⟩⟩)
         case measure=>simp[intOf];omega
        ·have d5:(dt.yo x.typ x.data != 0)=true:=by rw[bne_iff_ne];exact m2
         have hc:up.yc qf x=1:=by rw[HK0.out,if_neg (fun h=>m2 h.2)]
         have HFI:=Lib.hid (show up.jl (up.yc qf) c=1 by
          have h:=up.uY (f:=up.yc qf) HLT.out HR.out.1 (by rw[← HX.out];rw[hc];simp)
          rw[h,← HX.out];exact hc)
         clear hc m2
         go_wp2_with fail
         go_ret
         exact⟨qH HFI.out.symm,HB7.out⟩
       ·have d4:(x.ttl != 0)=true:=by rw[bne_iff_ne];exact m1
        have hc:up.yc qf x=1:=by rw[hc0,if_neg (fun h=>m1 h.1)]
        have HFI:=Lib.hid (show up.jl (up.yc qf) c=1 by
         have h:=up.uY (f:=up.yc qf) HLT.out HR.out.1 (by rw[← HX.out];rw[hc];simp)
         rw[h,← HX.out];exact hc)
        clear hc hc0 k1 k2 k3 m1
        go_wp2_with fail
        go_ret
        exact⟨qH HFI.out.symm,HB6.out⟩
      ·have d3:(x.cls == 254)=false:=by rw[beq_eq_false_iff_ne];exact k3
       have hc:=up.chg_else (x:=x) HIB.out.symm k1 k2 k3
       have HFI:=Lib.hid (show up.jl (up.yc qf) c=1 by
        have h:=up.uY (f:=up.yc qf) HLT.out HR.out.1 (by rw[← HX.out];rw[hc];simp)
        rw[h,← HX.out];exact hc)
       clear hc k1 k2 k3
       go_wp2_with fail
       go_ret
       exact⟨qH HFI.out.symm,HB6.out⟩
  ·obtain rfl:k=c.length:=by omega
   have HFI:=Lib.hid (show up.jl (up.yc qf) c=0 from up.Yo fun j hj=>HR.out.1 j hj hj)
   clear hlt
   go_wp2_with fail
   go_ret
   exact⟨qH HFI.out.symm,HR.out.2⟩
end Go.Proofs.YtdjjemajfphjaaaGreat
