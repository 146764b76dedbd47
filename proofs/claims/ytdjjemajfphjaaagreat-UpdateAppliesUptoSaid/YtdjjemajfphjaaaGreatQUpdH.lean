import Derived.Test.YtdjjemajfphjaaaGreatQUpdF
import Derived.Test.YtdjjemajfphjaaaGreatQUpdW
import Derived.Test.YtdjjemajfphjaaaGreatQUpdG
set_option maxRecDepth 100000
set_option maxHeartbeats 16000000
namespace Go.Proofs.YtdjjemajfphjaaaGreat
open Go.RowKit Go.Shelf Go.WideMaps nm od
theorem check1_any (top z:Nat)(qf:ByteArray)(L:List Rec)(hva:zn.Valid qf L)(h:Hd)(qs:List Qn)(an au ad:List Rec)(hq:qs.length≤1000000000000)(ha:an.length≤1000000000000)(hu:au.length≤1000000000000)(hd:ad.length≤1000000000000)
 (q a u d:Value) (bm bz:Nat) (w:World) (hm:yn w bm h q a u d) (hz0:w.cell? ⟨bz,0,none⟩=some (.pointer (some ⟨z,0,none⟩))) (lz:bz<w.heap.size) (hz:xu w top z qf L)
 (rq:kJ w q qs) (ra:qy w a an) (ru:qy w u au) (rd:qy w d ad):
 Calls Tryz.prog 25 #[.pointer (some ⟨bm,0,none⟩),.pointer (some ⟨bz,0,none⟩)] w fun e w'=>ThrownC (up.zN qf L h qs an au ad) w e w':=by
 have CW:=Lib.hid (wcheck_any h qs an au ad hq ha hu hd q a u d w rq ra ru rd)
 have HM:=Lib.hid hm;have HVA:=Lib.hid hva;have HZ:=Lib.hid hz;have LZ:=Lib.hid lz;have HZ0:=Lib.hid hz0
 have HQ:=Lib.hid rq;have HA:=Lib.hid ra;have HU:=Lib.hid ru
 obtain⟨qa,qc,rfl,-⟩:=id rq
 obtain⟨aa,ac,rfl,-⟩:=id ra
 obtain⟨ua,uc,rfl,-⟩:=id ru
 obtain⟨da,dc,rfl,-⟩:=id rd
 obtain⟨m0,m1,m2,m3,m4,m5,m6,m7,m8,m9,m10,m11,m12,m13⟩:=hm.facts
 clear hva hm hz0 lz hz rq ra ru rd
 go_enter Tryz.func25,Tryz.ntmps25
 by_cases hr:h.UU=true
 ·have e1:(!h.UU)=false:=by rw[hr];rfl
  have HC:=Lib.hid (up.Uf (qf:=qf) (L:=L) (h:=h) (qs:=qs) (an:=an) (au:=au) (ad:=ad) (by unfold up.xn;rw[hr];rfl))
  clear hr
  go_wp2_with fail
  refine(jw 1 _).mono ?_
  rintro e wN ⟨rfl,rfl⟩
  exact⟨rfl,.inr ⟨by rw[HC.out];decide,by rw[HC.out]⟩,(Below.refl _ _)⟩
 ·have e1:(!h.UU)=true:=by simpa using hr
  have HR1:=Lib.hid e1
  clear hr
  go_wp2_with fail
  refine CW.out.mono ?_
  rintro e w1 ⟨rfl,hB1⟩
  have HB1:=Lib.hid hB1
  obtain⟨mb,hmb⟩:∃mb,mb=wi.jI h qs an au ad:=⟨_,rfl⟩
  rw[← hmb]
  have HMB:=Lib.hid hmb
  clear m0 m1 m2 m3 m4 m5 m6 m7 m8 m9 m10 m11 m12 m13
  obtain⟨m0,m1,m2,m3,m4,m5,m6,m7,m8,m9,m10,m11,m12,m13⟩:=(HM.out.below HB1.out).facts
  clear hB1 hmb e1
  cases mb
  ·have e2:(wi.okI false == 0)=false:=by decide
   have HC:=Lib.hid (up.Uf (qf:=qf) (L:=L) (h:=h) (qs:=qs) (an:=an) (au:=au) (ad:=ad) (by unfold up.xn;rw[← HMB.out];simp))
   go_wp2_with fail
   refine(jw 1 _).mono ?_
   rintro e wN ⟨rfl,rfl⟩
   exact⟨rfl,.inr ⟨by rw[HC.out];decide,by rw[HC.out]⟩,HB1.out⟩
  ·have e2:(wi.okI true == 0)=true:=by decide
   by_cases ho:h.op=5
   ·have e3:(h.op == 5)=true:=by rw[beq_iff_eq];exact ho
    have HH:=Lib.hid (show up.xn h qs an au ad=true by unfold up.xn;rw[HR1.out,← HMB.out,ho];rfl)
    clear ho
    go_wp2_with fail
    refine(j3 1 _).mono ?_
    rintro e wN ⟨rfl,rfl⟩
    clear e2 e3
    by_cases hq1:qs.length=1
    ·obtain⟨_,_,hv,-,hr0⟩:=HQ.out.below HB1.out
     simp only[Value.slice.injEq,true_and]at hv
     obtain⟨rfl,rfl⟩:=hv
     obtain⟨qb,qoff,rfl,hqb,c0,c1,c2⟩:=hr0 0 (by omega)
     obtain⟨q0,hq0⟩:∃q0,q0=qs[0]'(by omega):=⟨_,rfl⟩
     rw[← hq0]at c0 c1 c2
     simp only[Nat.zero_mul,Nat.add_zero]at c0 c1 c2
     have hqs:qs= [q0]:=by
      obtain⟨y,hy⟩:=List.length_eq_one_iff.1 hq1
      have:q0=y:=by rw[hq0];simp[hy]
      rw[this,hy]
     rw[hq1]at m10
     have HQS:=Lib.hid hqs
     clear hr0 hqb hq0 hqs hq1
     by_cases k6:q0.typ=6
     ·have e4:(q0.typ == 6)=true:=by rw[beq_iff_eq];exact k6
      by_cases kc:q0.cls=1
      ·have e5:(q0.cls == 1)=true:=by rw[beq_iff_eq];exact kc
       have HAS:=Lib.hid (show up.xe qs=true by rw[HQS.out];simp[up.xe,k6,kc])
       clear k6 kc
       go_wp2_with fail
       refine(j3 1 _).mono ?_
       rintro e wN ⟨rfl,rfl⟩
       clear e4 e5
       go_upto_region 2 with fail
       obtain⟨base0,rg0,cap0,sb0,tb0,l0,-,hza,-⟩:=(HZ.out.kept HB1.out).v.parts
       have CAp:Hid (∀p,Calls Tryz.prog 16 #[.pointer (some ⟨z,0,none⟩)] (gw w1 p) fun e w''=>e= .returned (.string qf)∧∃p',w''=gw w1 p'):=
        Lib.hid fun p=>uZ (ve z qf _ _ _ _ (((qp w1 p).block z (qw hza)).trans hza))
       obtain⟨ib,hib⟩:∃ib,ib=qz q0.name qf:=⟨_,rfl⟩
       have CE:Hid (∀p,Calls Tryz.prog 28 #[.string q0.name,.string qf] (gw w1 p) fun e w''=>e= .returned (.bool ib)∧∃p',w''=gw w1 p'):=Lib.hid fun p=>by rw[hib];exact qL (vJ q0.name qf _)
       have HAU:=Lib.hid (show up.authB qf qs=ib by rw[HQS.out,hib];rfl)
       have z1:=(HB1.out.cell (p:=⟨bz,0,none⟩) LZ.out).trans HZ0.out
       have k0:=qh z1;have k1:=qh m10;have k2:=qh c0
       clear hza hib z1 c0 c1 c2
       clear m0 m1 m2 m3 m4 m5 m6 m7 m8 m9 m10 m11 m12 m13
       cases ib
       ·have HC:=Lib.hid (up.chk_c (qf:=qf) (L:=L) HH.out HAS.out HAU.out)
        refine ze (C:=fun W=>∃p,W=gw w1 p) 12 (by kernel_rfl) (by kernel_rfl) (uL w1) ?_
        simp only[List.take_succ_cons,List.take_zero,List.drop_succ_cons,List.drop_zero]
        repeat (with_reducible refine wpQuiet_step (fun K hK=>?_);go_simp;first | (with_reducible refine hK _ ?_;clear hK K) | (apply Exists.intro;refine⟨fun _=>?_,hK _ ?_⟩;(first | (go_at_call 16;with_reducible exact CAp.out _) | (go_at_call 28;with_reducible exact CE.out _));clear hK K))
        with_reducible refine wpQuiet_nil ?_
        intro U hU
        have hBU:Below w1.heap.size w1 U:=by obtain⟨p,rfl⟩:=hU;exact qp _ _
        have HB2:=Lib.hid (HB1.out.trans (hBU.mono HB1.out.size))
        clear hU hBU k0 k1 k2
        go_wp2_with fail
        refine(jw 9 _).mono ?_
        rintro e wN ⟨rfl,rfl⟩
        exact⟨rfl,.inr ⟨by rw[HC.out];decide,by rw[HC.out]⟩,HB2.out⟩
       ·have HCD:=Lib.hid (up.chk_d (qf:=qf) (L:=L) HH.out HAS.out HAU.out)
        have CA:Hid (∀p,Calls Tryz.prog 26 #[.bool true,.int .i64 9] (gw w1 p) fun e w''=>e= .returned (.tuple #[])∧∃p',w''=gw w1 p'):=Lib.hid fun p=>Zq (j3 9 _)
        refine qj (by kernel_rfl) (by kernel_rfl) ?_
        repeat (with_reducible refine wpQuiet_step (fun K hK=>?_);go_simp;(try simp only[undef]);first | (with_reducible refine hK _ ?_;clear hK K) | (apply Exists.intro;refine⟨fun _=>?_,hK _ ?_⟩;(first | (go_at_call 16;with_reducible exact CAp.out _) | (go_at_call 28;with_reducible exact CE.out _) | (go_at_call 26;with_reducible exact CA.out _));clear hK K) | (with_reducible refine⟨fun _ h=>(by cases h),?_⟩;with_reducible refine hK _ ?_;clear hK K))
        refine wpQuiet_nil ?_
        (try simp only[show Value.tuple #[]=undef from rfl])
        intro U hU
        have hBU:Below w1.heap.size w1 U:=by obtain⟨g,rfl⟩:=hU;exact qp _ g
        clear hU
        have HB2:=Lib.hid (HB1.out.trans (hBU.mono HB1.out.size))
        have hmm:=@run_makeMap Tryz.prog
        clear hBU k0 k1 k2
        go_upto_region 4 with fail
        clear hmm
        obtain⟨W,hW⟩:∃W,W=U.heap.size:=⟨_,rfl⟩
        rw[← hW]
        obtain⟨w2,hw2⟩:∃X,X=U.alloc (.map #[] 0):=⟨_,rfl⟩
        rw[← hw2]
        have HB3:=Lib.hid (show Below w.heap.size w w2 by rw[hw2];exact HB2.out.alloc HB2.out.size _)
        have HW3:=Lib.hid (show xH w2 w.heap.size W [] by rw[hw2,hW];exact jX.made U _ HB2.out.size)
        clear hW hw2
        obtain⟨m0,m1,m2,m3,m4,m5,m6,m7,m8,m9,m10,m11,m12,m13⟩:=(HM.out.below HB3.out).facts
        go_wp2_with fail
        clear m0 m1 m2 m3 m4 m5 m6 m7 m8 m9 m10 m11 m12 m13
        go_loopw [64] (fun kv wr=>∃k:Nat,k≤an.length∧kv= .int .i64 (k:Int)∧Hid ((∀j (hj:j<an.length),j<k→up.zP qf L an[j]=0)∧Below w.heap.size w wr∧xH wr w.heap.size W (an.take k))) (fun kv _=>an.length-(intOf kv).toNat)
        case atStart=>exact⟨0,Nat.zero_le _,rfl,Lib.hid ⟨fun j hj h=>absurd h (Nat.not_lt_zero _),HB3.out,HW3.out⟩⟩
        case round=>
         obtain⟨k,hk,rfl,HR⟩:=hrel
         obtain⟨w5,hw5⟩:∃X:World,X=wr:=⟨_,rfl⟩
         subst hw5
         by_cases hlt:k<an.length
         ·obtain⟨bb,off,rfl⟩:=yI HA.out (Nat.lt_of_le_of_lt (Nat.zero_le _) hlt)
          have hki:(k:Int)<(an.length:Int):=by omega
          obtain⟨c0,c1,c2,c3,c4⟩:=yP (HA.out.below HR.out.2.1) hlt
          obtain⟨x,hx⟩:∃x,x=an[k]:=⟨_,rfl⟩
          rw[← hx]at c0 c1 c2 c3 c4
          obtain⟨wa,hwa⟩:∃W,W=w5.alloc (.cells (recC x).toArray 51):=⟨_,rfl⟩
          obtain⟨hBa,hsa,hxa⟩:=qM w5 wa x hwa
          obtain⟨bx,hbx⟩:∃b,b=w5.heap.size:=⟨_,rfl⟩
          rw[← hbx]at hxa
          have HWA:=Lib.hid hwa;have HX:=Lib.hid hx;have HLT:=Lib.hid hlt;have HXA:=Lib.hid hxa;have HBX:=Lib.hid hbx;have HAL:=Lib.hid hBa
          have HBA:=Lib.hid (Below.trans HR.out.2.1 (hBa.mono (Below.size HR.out.2.1)))
          clear hwa hx hBa hsa hxa hbx
          go_upto_region 7 with fail
          rw[← HWA.out,← HBX.out]
          clear c0 c1 c2 c3 c4 hki
          obtain⟨x0,x1,x2,x3,x4⟩:=id HXA.out
          have z1:=(HBA.out.cell (p:=⟨bz,0,none⟩) LZ.out).trans HZ0.out
          go_wp2_with fail
          refine(condition_any top z qf L HVA.out x ((up.msg_ok (up.xC HH.out).2.1).1 x (by rw[HX.out];exact List.getElem_mem HLT.out)) w.heap.size W (an.take k) wa (HZ.out.kept HBA.out) (jX.below HR.out.2.2 HAL.out)).mono ?_
          rintro e w6 ⟨hp,hB6⟩
          have HB6:=Lib.hid (HBA.out.trans hB6)
          clear hB6 x0 x1 x2 x3 x4 z1
          rcases hp with⟨hc,rfl,hW⟩|⟨hc,rfl⟩
          ·have HC0:=Lib.hid hc;have HW6:=Lib.hid hW
           clear hc hW
           go_wp2_with fail
           go_roundw
           case rel=>
            have hrel:∀j (hj:j<an.length),j<k+1→up.zP qf L an[j]=0:=fun j hj h=>by
             rcases Nat.lt_or_ge j k with h2 | h2
             ·exact HR.out.1 j hj h2
             ·obtain rfl:j=k:=by omega
              exact(congrArg (up.zP qf L) HX.out.symm).trans HC0.out
            have hw7:xH w6 w.heap.size W (an.take (k+1)):=by
             rw[List.take_succ_eq_append_getElem HLT.out,← HX.out];exact HW6.out
            first
             | exact⟨k+1,by omega,by go_num,Lib.hid ⟨hrel,HB6.out,hw7⟩⟩
             | (repeat apply Exists.intro
                refine And.intro ?_ ?_
                rotate_left
                ·repeat (first | exact rfl | refine And.intro rfl ?_)
                exact⟨k+1,by omega,by go_num,Lib.hid ⟨hrel,HB6.out,hw7⟩⟩)
           case measure=>simp[intOf];omega
          ·have hcs:=up.jy HLT.out HR.out.1 (by rw[← HX.out]) hc
           have hc2:up.zN qf L h qs an au ad=up.zP qf L x:=by rw[HCD.out,if_pos (by rw[hcs];exact hc),hcs]
           exact⟨rfl,.inr ⟨by rw[hc2];exact hc,by rw[hc2]⟩,HB6.out⟩
         ·obtain rfl:k=an.length:=by omega
          have HF0:=Lib.hid (show up.jl (up.zP qf L) an=0 from up.Yo fun j hj=>HR.out.1 j hj hj)
          have HWA:=Lib.hid (show xH w5 w.heap.size W an by have:=HR.out.2.2;rwa [List.take_length]at this)
          have HB5:=Lib.hid HR.out.2.1
          clear hlt HR
          obtain⟨mb,-,hMF,hMB,-⟩:=id HWA.out
          obtain⟨w6,X5,hRF,hB6,-⟩:=QH Tryz.underlying65 hMF
          have HRF:=Lib.hid hRF;have HB6:=Lib.hid (HB5.out.trans (hB6.mono HB5.out.size))
          have HMB:=Lib.hid (show ∀X,Below w5.heap.size w5 X→∀κ∈up.JH an,yT kC jF X (mb κ) (up.JU an κ) (fun _=>.int .i64 1) from fun X hX κ hκ=>(hMB κ hκ).2.2.below hX (hMB κ hκ).2.2.lt)
          have Vm:=Lib.hid hB6
          have HMF:=Lib.hid hMF
          clear hMF hMB hRF hB6
          go_wp2_with fail
          clear X5
          go_loopw [] (fun wr=>∃done,Hid (yN xk uR wr W w5.heap.size (up.JH an) (fun κ=>.map (some (mb κ))) done∧(∀κ∈done,up.pairB L an κ=true)∧Below w5.heap.size w5 wr)) (fun wr=>wr.rangeLeft W w5.heap.size)
          case atStart=>
           refine⟨[],Lib.hid ⟨HRF.out,?_,Vm.out⟩⟩
           intro κ hκ
           cases hκ
          case round=>
           obtain⟨done,HR⟩:=hrel
           obtain⟨wo,hwo⟩:∃X:World,X=wr:=⟨_,rfl⟩
           subst hwo
           rcases HR.out.1.next (P:=Tryz.prog) 0 with⟨hall,hrun⟩|⟨κ,w9,hd,hnd,hrun,xY,hg9,hs9,hdec,hent⟩
           ·have HWB:=Lib.hid (show up.Xj L an=true from(up.want_iff (up.U0 (up.xC HH.out).2.1).1 HVA.out.named).2 fun κ hκ=>HR.out.2.1 κ (hall κ hκ))
            have HBo:=Lib.hid (HB5.out.trans (HR.out.2.2.mono HB5.out.size))
            have HC:=Lib.hid (show up.zN qf L h qs an au ad=up.jl (up.yc qf) au by
             have:up.yM qf L an=0:=by unfold up.yM;rw[HF0.out,HWB.out];rfl
             rw[HCD.out,this];rfl)
            clear hall
            obtain⟨m0,m1,m2,m3,m4,m5,m6,m7,m8,m9,m10,m11,m12,m13⟩:=(HM.out.below HBo.out).facts
            go_wp2_with fail
            clear hrun
            clear m0 m1 m2 m3 m4 m5 m6 m7 m8 m9 m10 m11 m12 m13
            go_loopw [103] (fun kv wr=>∃k:Nat,k≤au.length∧kv= .int .i64 (k:Int)∧Hid ((∀j (hj:j<au.length),j<k→up.yc qf au[j]=0)∧Below w.heap.size w wr)) (fun kv _=>au.length-(intOf kv).toNat)
            case atStart=>exact⟨0,Nat.zero_le _,rfl,Lib.hid ⟨fun j hj h=>absurd h (Nat.not_lt_zero _),HBo.out⟩⟩
            case round=>
             obtain⟨k,hk,rfl,HR4⟩:=hrel
             obtain⟨w7,hw7⟩:∃X:World,X=wr:=⟨_,rfl⟩
             subst hw7
             by_cases hlt:k<au.length
             ·obtain⟨bb4,off4,rfl⟩:=yI HU.out (Nat.lt_of_le_of_lt (Nat.zero_le _) hlt)
              have hki:(k:Int)<(au.length:Int):=by omega
              obtain⟨c0,c1,c2,c3,c4⟩:=yP (HU.out.below HR4.out.2) hlt
              obtain⟨x,hx⟩:∃x,x=au[k]:=⟨_,rfl⟩
              rw[← hx]at c0 c1 c2 c3 c4
              obtain⟨wa,hwa⟩:∃W,W=w7.alloc (.cells (recC x).toArray 51):=⟨_,rfl⟩
              obtain⟨hBa,hsa,hxa⟩:=qM w7 wa x hwa
              obtain⟨bx,hbx⟩:∃b,b=w7.heap.size:=⟨_,rfl⟩
              rw[← hbx]at hxa
              have HWA:=Lib.hid hwa;have HX:=Lib.hid hx;have HLT:=Lib.hid hlt;have HXA:=Lib.hid hxa;have HBX:=Lib.hid hbx;have HAL:=Lib.hid hBa
              have HBA:=Lib.hid (Below.trans HR4.out.2 (hBa.mono (Below.size HR4.out.2)))
              clear hwa hx hBa hsa hxa hbx
              go_upto_region 22 with fail
              rw[← HWA.out,← HBX.out]
              clear c0 c1 c2 c3 c4 hki
              obtain⟨x0,x1,x2,x3,x4⟩:=id HXA.out
              have z1:=(HBA.out.cell (p:=⟨bz,0,none⟩) LZ.out).trans HZ0.out
              obtain⟨base0,rg0,cap0,sb0,tb0,l0,-,hza,-⟩:=(HZ.out.kept HBA.out).v.parts
              have HZA:=Lib.hid hza
              clear hza
              go_wp2_with fail
              refine(change_any z qf _ _ _ x wa HZA.out).mono ?_
              rintro e w8 ⟨hp,hB8⟩
              have HB8:=Lib.hid (HBA.out.trans (hB8.mono HBA.out.size))
              clear hB8 x0 x1 x2 x3 x4 z1
              rcases hp with⟨hc,rfl⟩|⟨hc,rfl⟩
              ·have HC0:=Lib.hid hc
               clear hc
               go_wp2_with fail
               go_roundw
               case rel=>
                have hrel:∀j (hj:j<au.length),j<k+1→up.yc qf au[j]=0:=fun j hj h=>by
                 rcases Nat.lt_or_ge j k with h2 | h2
                 ·exact HR4.out.1 j hj h2
                 ·obtain rfl:j=k:=by omega
                  exact(congrArg (up.yc qf) HX.out.symm).trans HC0.out
                first
                 | exact⟨k+1,by omega,by go_num,Lib.hid ⟨hrel,HB8.out⟩⟩
                 | (repeat apply Exists.intro
                    refine And.intro ?_ ?_
                    rotate_left
                    ·repeat (first | exact rfl | refine And.intro rfl ?_)
                    exact⟨k+1,by omega,by go_num,Lib.hid ⟨hrel,HB8.out⟩⟩)
               case measure=>simp[intOf];omega
              ·have hcs:=up.uY (f:=up.yc qf) HLT.out HR4.out.1 (by rw[← HX.out];exact hc)
               rw[← HX.out]at hcs
               exact⟨rfl,.inr ⟨by rw[HC.out,hcs];exact hc,by rw[HC.out,hcs]⟩,HB8.out⟩
             ·obtain rfl:k=au.length:=by omega
              have HC2:=Lib.hid (show up.zN qf L h qs an au ad=0 by rw[HC.out];exact up.Yo fun j hj=>HR4.out.1 j hj hj)
              clear hlt
              go_wp2_with fail
              go_end0
              exact⟨.inl ⟨HC2.out,rfl⟩,HR4.out.2⟩
           ·obtain⟨wa,hwa⟩:∃X,X=w9.alloc (.cells #[.string κ.1,.int .i64 κ.2] 68):=⟨_,rfl⟩
            have hB9:Below w5.heap.size w5 w9:=HR.out.2.2.grown hg9 HR.out.2.2.size (fun j e=>by cases e;exact Nat.le_refl _)
            have hBa:Below w9.heap.size w9 wa:=by rw[hwa];exact(Below.refl _ w9).alloc (Nat.le_refl _) _
            obtain⟨bp,hbp⟩:∃b,b=w9.heap.size:=⟨_,rfl⟩
            have hblk:wa.heap[bp]? =some (.cells #[.string κ.1,.int .i64 κ.2] 68 (0,0)):=by rw[hwa];exact qo hbp
            have hdec2:wa.rangeLeft W w5.heap.size<wo.rangeLeft W w5.heap.size:=by rw[jB (hBa.block W xY.map.lt) (hBa.block w5.heap.size xY.lt)];exact hdec
            have hKO:uR κ:=xY.2.1 κ hd
            have HWA:=Lib.hid hwa;have HBP:=Lib.hid hbp;have HBLK:=Lib.hid hblk;have HDEC:=Lib.hid hdec2;have HKO:=Lib.hid hKO;have HD:=Lib.hid hd
            have HRFa:=Lib.hid (xY.below hBa)
            have HBa:=Lib.hid (hB9.trans (hBa.mono hB9.size))
            have HBwa:=Lib.hid (HB5.out.trans (HBa.out.mono HB5.out.size))
            clear hwa hB9 hBa hbp hblk hdec2 hKO xY hg9 hs9 hdec hd hnd
            go_upto_region 12 with fail
            rw[← HWA.out,← HBP.out]
            clear hrun hent
            obtain⟨H,hH⟩:∃H,H=wa.heap.size:=⟨_,rfl⟩
            obtain⟨wb,hwb⟩:∃X,X=wa.alloc (.map #[] 0):=⟨_,rfl⟩
            have hBb:Below wa.heap.size wa wb:=by rw[hwb];exact(Below.refl _ wa).alloc (Nat.le_refl _) _
            have hHm:yT kC jF wb H [] (fun _=>.int .i64 1):=by rw[hwb,hH];exact yT.made wa _ _ _
            have hHs:wb.heap.size=H+1:=by rw[hwb,hH,World.size_alloc]
            obtain⟨p0,p1,-,-⟩:=Zx ((hBb.block bp (qw HBLK.out)).trans HBLK.out)
            have z1:=((HBwa.out.trans (hBb.mono HBwa.out.size)).cell (p:=⟨bz,0,none⟩) LZ.out).trans HZ0.out
            have hmm:=@run_makeMap Tryz.prog
            have HWB:=Lib.hid hwb;have HHH:=Lib.hid hH;have HHM:=Lib.hid hHm;have HHS:=Lib.hid hHs;have HBb:=Lib.hid hBb
            have HBwb:=Lib.hid (HBwa.out.trans (hBb.mono HBwa.out.size))
            clear hwb hH hBb hHm hHs
            go_upto_region 13 with fail
            rw[← HWB.out,← HHH.out]
            clear hmm
            go_wp2_with fail
            refine(set_any top z qf L (HZ.out.kept HBwb.out).small κ.1 κ.2 HKO.out.2 wb (HZ.out.kept HBwb.out).v).mono ?_
            rintro e w10 ⟨v10,rfl,jo,qI⟩
            obtain⟨va,vc,rfl,-⟩:=qC qI
            obtain⟨R,hR⟩:∃R,R=zn.qD L κ:=⟨_,rfl⟩
            have hR':zn.qD L (qm κ.1,κ.2)=R:=by
             obtain⟨y,hy,-,rfl⟩:=(up.kW up.XY zn.zh).1 HD.out
             rw[hR]
             show zn.qD L (qm (qm y.owner),y.typ)=zn.qD L (qm y.owner,y.typ)
             rw[up.fold_fold]
            rw[hR']at qI ⊢
            have HRR:=Lib.hid hR
            have HRok:=Lib.hid (show ∀r∈R,(Lit.int .i64 r.typ).wf=true from fun r hr=>by
             rw[hR]at hr
             have h1:=(zn.ky.1 hr).2
             have h2:r.typ=κ.2:=by rw[← h1];rfl
             rw[h2];exact HKO.out.2)
            have HRlen:=Lib.hid (show R.length≤2000 by rw[hR];exact Nat.le_trans (UR _ _) HVA.out.small)
            have HM10:=Lib.hid (HHM.out.below jo HHM.out.lt)
            have HO10:=Lib.hid qI
            have zw:=Lib.hid (HBb.out.trans (jo.mono HBb.out.size))
            clear jo qI hR hR' p0 p1 z1
            go_wp2_with fail
            go_loopw [88] (fun kv wr=>∃k:Nat,k≤R.length∧kv= .int .i64 (k:Int)∧Hid (yT kC jF wr H (up.Kh (fun _=>true) zn.zf (R.take k)) (fun _=>.int .i64 1)∧wr.ownsRow wb.heap.size 51 5 (.slice va R.length vc) R.length (qG R)∧Below wa.heap.size wa wr)) (fun kv _=>R.length-(intOf kv).toNat)
            case atStart=>exact⟨0,Nat.zero_le _,rfl,Lib.hid ⟨HM10.out,HO10.out,zw.out⟩⟩
            case round=>
             obtain⟨kq,hkq,rfl,HR3⟩:=hrel
             obtain⟨w11,hw11⟩:∃X:World,X=wr:=⟨_,rfl⟩
             subst hw11
             by_cases ui:kq<R.length
             ·have HRq:=Lib.hid (qO HR3.out.2.1)
              obtain⟨bb3,off3,rfl⟩:=yI HRq.out (Nat.lt_of_le_of_lt (Nat.zero_le _) ui)
              have X9:(kq:Int)<(R.length:Int):=by omega
              obtain⟨c0,c1,c2,c3,c4⟩:=yP (HRq.out.below (Below.refl w11.heap.size w11)) ui
              obtain⟨xq,hx⟩:∃x,x=R[kq]:=⟨_,rfl⟩
              rw[← hx]at c0 c1 c2 c3 c4
              obtain⟨waq,hwa⟩:∃W,W=w11.alloc (.cells (recC xq).toArray 51):=⟨_,rfl⟩
              obtain⟨hBa,hsa,hxa⟩:=qM w11 waq xq hwa
              obtain⟨bxq,hbx⟩:∃b,b=w11.heap.size:=⟨_,rfl⟩
              rw[← hbx]at hxa
              have HWAq:=Lib.hid hwa;have HXq:=Lib.hid hx;have HLTq:=Lib.hid ui;have HXAq:=Lib.hid hxa;have HBXq:=Lib.hid hbx;have HALq:=Lib.hid hBa
              have HBAq:=Lib.hid (Below.trans (Below.refl w11.heap.size w11) (hBa.mono (Below.size (Below.refl w11.heap.size w11))))
              clear hwa hx hBa hsa hxa hbx
              go_upto_region 16 with fail
              rw[← HWAq.out,← HBXq.out]
              clear c0 c1 c2 c3 c4 X9
              obtain⟨x0,x1,x2,x3,x4⟩:=id HXAq.out
              go_wp2_with fail
              refine(xN xq waq).mono ?_
              rintro e w12 ⟨rfl,J9⟩
              have hBq:=HALq.out.trans (J9.mono HALq.out.size)
              obtain⟨w13,hrun13,hg13,-,hM13⟩:=xX likeE Tryz.underlying69 (HR3.out.1.below hBq HR3.out.1.lt) (Zc (HRok.out xq (by rw[HXq.out];exact List.getElem_mem HLTq.out))) (.int .i64 1)
              have hM14:yT kC jF w13 H (up.Kh (fun _=>true) zn.zf (R.take (kq+1))) (fun _=>.int .i64 1):=by
               rw[List.take_succ_eq_append_getElem HLTq.out,up.QB,if_pos rfl,← HXq.out]
               exact hM13.congr fun f _=>by unfold QD;split <;> rfl
              have hO14:w13.ownsRow wb.heap.size 51 5 (.slice (some ⟨bb3,off3,none⟩) R.length vc) R.length (qG R):=by
               have ho:=ownsRow_below HR3.out.2.1 hBq
               refine qi ho fun b hb=>hg13.block b (ho.lt b hb).2 ?_
               have:=(ho.lt b hb).1
               have:=HHS.out
               simp;omega
              have hB14:Below wa.heap.size wa w13:=(HR3.out.2.2.trans (hBq.mono HR3.out.2.2.size)).grown hg13 (Nat.le_trans HR3.out.2.2.size hBq.size) (fun j hj=>by cases hj;exact Nat.le_of_eq HHH.out.symm)
              have HM14:=Lib.hid hM14;have HO14:=Lib.hid hO14;have HB14:=Lib.hid hB14
              clear J9 hBq hg13 hM13 hM14 hO14 hB14 x0 x1 x2 x3 x4
              have hrl:=HRlen.out
              go_wp2_with fail
              go_roundw
              case rel=>
               first
                | exact⟨kq+1,by omega,by go_num,Lib.hid ⟨HM14.out,HO14.out,HB14.out⟩⟩
                | (repeat apply Exists.intro
                   refine And.intro ?_ ?_
                   rotate_left
                   ·repeat (first | exact rfl | refine And.intro rfl ?_)
                   exact⟨kq+1,by omega,by go_num,Lib.hid ⟨HM14.out,HO14.out,HB14.out⟩⟩)
              case measure=>simp[intOf];omega
             ·obtain rfl:kq=R.length:=by omega
              have HMH:=Lib.hid (show yT kC jF w11 H (up.hset L κ) (fun _=>.int .i64 1) by have:=HR3.out.1;rw[List.take_length,HRR.out]at this;exact this)
              have HB15:=Lib.hid (HBa.out.trans (HR3.out.2.2.mono HBa.out.size))
              have HRF15:=Lib.hid (HRFa.out.below HR3.out.2.2)
              have HDEC15:=Lib.hid (show w11.rangeLeft W w5.heap.size<wo.rangeLeft W w5.heap.size by
               rw[jB (HR3.out.2.2.block W HRFa.out.map.lt) (HR3.out.2.2.block w5.heap.size HRFa.out.lt)];exact HDEC.out)
              clear ui HR3
              go_wp2_with fail
              refine(equalLikes_any (up.JU an κ) (up.hset L κ) (fun _=>1) (fun _=>1) (mb κ) H w11 (HMB.out w11 HB15.out κ HD.out) HMH.out).mono ?_
              rintro e w16 ⟨rfl,hB16⟩
              have HB16:=Lib.hid (HB15.out.trans (hB16.mono HB15.out.size))
              have HRF16:=Lib.hid (HRF15.out.below hB16)
              have HDEC16:=Lib.hid (show w16.rangeLeft W w5.heap.size<wo.rangeLeft W w5.heap.size by
               rw[jB (hB16.block W HRF15.out.map.lt) (hB16.block w5.heap.size HRF15.out.lt)];exact HDEC15.out)
              rw[up.pair_same]
              obtain⟨pb,hpb⟩:∃pb,pb=up.pairB L an κ:=⟨_,rfl⟩
              rw[← hpb]
              have HPB:=Lib.hid hpb
              clear hB16 hpb
              cases pb
              ·have HB17:=Lib.hid (HB5.out.trans (HB16.out.mono HB5.out.size))
               have HC:=Lib.hid (show up.zN qf L h qs an au ad=8 by
                have hwb:up.Xj L an=false:=by
                 rw[← Bool.not_eq_true,up.want_iff (up.U0 (up.xC HH.out).2.1).1 HVA.out.named]
                 intro hh
                 have:=hh κ HD.out
                 rw[← HPB.out]at this
                 cases this
                have:up.yM qf L an=8:=by unfold up.yM;rw[HF0.out,hwb];rfl
                rw[HCD.out,this];rfl)
               go_wp2_with fail
               refine(jw 8 _).mono ?_
               rintro e wN ⟨rfl,rfl⟩
               exact⟨rfl,.inr ⟨by rw[HC.out];decide,by rw[HC.out]⟩,HB17.out⟩
              ·go_wp2_with fail
               refine(j3 8 _).mono ?_
               rintro e wN ⟨rfl,rfl⟩
               go_wp2_with fail
               go_roundw
               case rel=>
                have hdone:∀κ'∈done ++ [κ],up.pairB L an κ'=true:=fun κ' hκ'=>by
                 rcases List.mem_append.1 hκ' with h1 | h1
                 ·exact HR.out.2.1 κ' h1
                 ·obtain rfl:κ'=κ:=by simpa using h1
                  exact HPB.out.symm
                first
                 | exact⟨done ++ [κ],Lib.hid ⟨HRF16.out,hdone,HB16.out⟩⟩
                 | (repeat apply Exists.intro
                    refine And.intro ?_ ?_
                    rotate_left
                    ·repeat (first | exact rfl | refine And.intro rfl ?_)
                    exact⟨done ++ [κ],Lib.hid ⟨HRF16.out,hdone,HB16.out⟩⟩)
               case measure=>exact HDEC16.out
      ·have e5:(q0.cls == 1)=false:=by rw[beq_eq_false_iff_ne];exact kc
       have HC:=Lib.hid (up.chk_b (qf:=qf) (L:=L) (h:=h) (qs:=qs) (an:=an) (au:=au) (ad:=ad) (by rw[HQS.out];simp[up.xe,kc]))
       clear k6 kc
       go_wp2_with fail
       refine(jw 1 _).mono ?_
       rintro e wN ⟨rfl,rfl⟩
       exact⟨rfl,.inr ⟨by rw[HC.out];decide,by rw[HC.out]⟩,HB1.out⟩
     ·have e4:(q0.typ == 6)=false:=by rw[beq_eq_false_iff_ne];exact k6
      have HC:=Lib.hid (up.chk_b (qf:=qf) (L:=L) (h:=h) (qs:=qs) (an:=an) (au:=au) (ad:=ad) (by rw[HQS.out];simp[up.xe,k6]))
      clear k6
      go_wp2_with fail
      refine(jw 1 _).mono ?_
      rintro e wN ⟨rfl,rfl⟩
      exact⟨rfl,.inr ⟨by rw[HC.out];decide,by rw[HC.out]⟩,HB1.out⟩
    ·have e2:((qs.length:Int) == 1)=false:=by rw[beq_eq_false_iff_ne];omega
     have HC:=Lib.hid (up.chk_b (qf:=qf) (L:=L) (h:=h) (an:=an) (au:=au) (ad:=ad) (show up.xe qs=false by
      match qs,hq1 with
      | [],_=>rfl
      | [_],h=>exact absurd rfl h
      | _ :: _ :: _,_=>rfl))
     clear hq1
     go_wp2_with fail
     refine(jw 1 _).mono ?_
     rintro e wN ⟨rfl,rfl⟩
     exact⟨rfl,.inr ⟨by rw[HC.out];decide,by rw[HC.out]⟩,HB1.out⟩
   ·have e3:(h.op == 5)=false:=by rw[beq_eq_false_iff_ne];exact ho
    have HC:=Lib.hid (up.Uf (qf:=qf) (L:=L) (h:=h) (qs:=qs) (an:=an) (au:=au) (ad:=ad) (by unfold up.xn;simp[ho]))
    clear ho
    go_wp2_with fail
    refine(jw 1 _).mono ?_
    rintro e wN ⟨rfl,rfl⟩
    exact⟨rfl,.inr ⟨by rw[HC.out];decide,by rw[HC.out]⟩,HB1.out⟩
theorem VZ (args:Array Value)(w:World):(callFunc 25 args).run Tryz.prog w= .ok (.enter 25 args) w:=by kernel_rfl
theorem ucheck_any (top z:Nat)(qf:ByteArray)(L:List Rec)(hva:zn.Valid qf L)(h:Hd)(qs:List Qn)(an au ad:List Rec)(hq:qs.length≤1000000000000)(ha:an.length≤1000000000000)(hu:au.length≤1000000000000)(hd:ad.length≤1000000000000)
 (q a u d:Value) (w:World) (hz:xu w top z qf L)
 (rq:kJ w q qs) (ra:qy w a an) (ru:qy w u au) (rd:qy w d ad):
 Calls Tryz.prog 9 #[.pointer (some ⟨z,0,none⟩),Yg h q a u d] w fun e w'=>e= .returned (.int .i64 (up.zN qf L h qs an au ad))∧Below w.heap.size w w':=by
 have hmf:∀(fn:Fn) (first cap:Array Value) (w:World),(Instr.makeFunc fn first cap).run Tryz.prog w= .ok (.func fn first cap) w:=fun _ _ _ _=>rfl
 obtain⟨w1,hw1⟩:∃X,X=w.alloc (.cells #[.pointer (some ⟨z,0,none⟩)] 26):=⟨_,rfl⟩
 have hB1:Below w.heap.size w w1:=by rw[hw1];exact(Below.refl _ w).alloc (Nat.le_refl _) _
 have hs1:w1.heap.size=w.heap.size+1:=by rw[hw1,World.size_alloc]
 obtain⟨bz,hbz⟩:∃b,b=w.heap.size:=⟨_,rfl⟩
 have hc1:w1.cell? ⟨bz,0,none⟩=some (.pointer (some ⟨z,0,none⟩)):=by rw[hw1,qg (qo hbz)];rfl
 obtain⟨w2,hw2⟩:∃X,X=w1.alloc (.cells (Yh h q a u d).toArray 25):=⟨_,rfl⟩
 obtain⟨hB2,hs2,hm2⟩:=uJ hw2
 obtain⟨bm,hbm⟩:∃b,b=w1.heap.size:=⟨_,rfl⟩
 rw[← hbm]at hm2
 have J9:Below w.heap.size w w2:=hB1.trans (hB2.mono hB1.size)
 have hbm2:w.heap.size+1=bm:=by omega
 have hc2:w2.cell? ⟨bz,0,none⟩=some (.pointer (some ⟨z,0,none⟩)):=(hB2.cell (p:=⟨bz,0,none⟩) (show bz<w1.heap.size by omega)).trans hc1
 have HDO:=Lib.hid (fun X (hX:Below w2.heap.size w2 X)=>check1_any top z qf L hva h qs an au ad hq ha hu hd q a u d bm bz X (hm2.below hX) ((hX.cell (p:=⟨bz,0,none⟩) (show bz<w2.heap.size by omega)).trans hc2) (Nat.lt_of_lt_of_le (show bz<w2.heap.size by omega) hX.size) (hz.kept (J9.trans (hX.mono J9.size)))
  (rq.below (J9.trans (hX.mono J9.size))) (ra.below (J9.trans (hX.mono J9.size))) (ru.below (J9.trans (hX.mono J9.size))) (rd.below (J9.trans (hX.mono J9.size))))
 have HW1:=Lib.hid hw1;have HW2:=Lib.hid hw2;have HB:=Lib.hid J9;have HBZ:=Lib.hid hbz;have HBM:=Lib.hid hbm2
 clear hva hq ha hu hd hz rq ra ru rd hw1 hB1 hs1 hbz hc1 hw2 hB2 hs2 hm2 hbm J9 hbm2 hc2
 go_enter Tryz.func9,Tryz.ntmps9
 go_upto_region 1 with fail
 rw[← HW1.out,← HW2.out,HBM.out,← HBZ.out]
 go_wp2_with fail
 refine(caught_any 25 #[.pointer (some ⟨bm,0,none⟩),.pointer (some ⟨bz,0,none⟩)] VZ (up.zN qf L h qs an au ad) w2 HDO.out).mono ?_
 rintro e w3 ⟨rfl,hB3⟩
 have HB3:=Lib.hid (HB.out.trans (hB3.mono HB.out.size))
 clear hB3
 go_wp2_with fail
 go_ret
 exact⟨rfl,HB3.out⟩
end Go.Proofs.YtdjjemajfphjaaaGreat
