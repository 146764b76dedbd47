import Derived.Test.YtdjjemajfphjaaaGreatQRUpd
import Derived.Test.YtdjjemajfphjaaaGreatQUpdG
set_option maxRecDepth 100000
set_option maxHeartbeats 16000000
namespace Go.Proofs.YtdjjemajfphjaaaGreat
open Go.RowKit Go.Shelf nm od
namespace up
open zn (qD zh zf qW yX)
section
variable {qf:ByteArray}{L l:List Rec}{x:Rec}
theorem cond_ttl (h:x.ttl≠0):zP qf L x=1:=by unfold zP;rw[if_pos h]
theorem cond_out (h:x.ttl=0)(h1:qU x.owner qf=false):zP qf L x=10:=by unfold zP;rw[if_neg (by simp[h]),if_pos h1]
theorem cond_in (h:x.ttl=0)(h1:qU x.owner qf=true)(h2:x.cls=1):zP qf L x=0:=by unfold zP;rw[if_neg (by simp[h]),if_neg (by simp[h1]),if_pos h2]
theorem cond_cls (h:x.ttl=0)(h1:qU x.owner qf=true)(h2:x.cls≠1)(h3:x.cls≠255)(h4:x.cls≠254):zP qf L x=1:=by
 unfold zP;rw[if_neg (by simp[h]),if_neg (by simp[h1]),if_neg h2,if_pos ⟨h3,h4⟩]
theorem JD (h:x.ttl=0)(h1:qU x.owner qf=true)(h2:x.cls≠1)(h4:x.data.size≠0):zP qf L x=1:=by
 unfold zP;rw[if_neg (by simp[h]),if_neg (by simp[h1]),if_neg h2]
 split
 ·rfl
 ·first | rw[if_pos h4] | rfl
theorem JC (h:x.ttl=0)(h1:qU x.owner qf=true)(yes:Bool)(h3:x.cls=if yes then 255 else 254)(h4:x.data.size=0):
 zP qf L x=if x.typ=255 then(if yX L x.owner=yes then 0 else if yes then 3 else 6) else(if decide (qD L (zh x)≠[])=yes then 0 else if yes then 8 else 7):=by
 unfold zP
 cases yes
 ·simp only[Bool.false_eq_true,if_false]at h3
  simp[h,h1,h3,h4]
 ·simp only[if_true]at h3
  simp[h,h1,h3,h4]
def Kt (l:List Rec)(y:Rec):Bool:=l.any fun v=>decide (v.cls=1) && qW v y
def vP (L l:List Rec)(x:Rec):Bool:=decide (x.cls≠1) || ((qD L (zh x)).any (fun y=>qW y x) && (qD L (zh x)).all fun y=>Kt l y)
theorem xw (h:x.cls≠1):vP L l x=true:=by unfold vP;rw[decide_eq_true h];rfl
theorem want_among (h:x.cls=1)(ha:((qD L (zh x)).any fun y=>qW y x)=false):vP L l x=false:=by unfold vP;rw[ha];simp[h]
theorem want_told {R:List Rec}(hR:R=qD L (zh x))(h:x.cls=1){k:Nat}(hk:k<R.length)(ht:Kt l R[k]=false):vP L l x=false:=by
 unfold vP
 rw[← hR]
 have:(R.all fun y=>Kt l y)=false:=by
  rw[List.all_eq_false]
  exact⟨_,List.getElem_mem hk,by rw[ht];simp⟩
 rw[this];simp[h]
theorem want_all {R:List Rec}(hR:R=qD L (zh x))(ha:(R.any fun y=>qW y x)=true)(ht:∀j (hj:j<R.length),Kt l R[j]=true):vP L l x=true:=by
 unfold vP
 rw[← hR]
 have:(R.all fun y=>Kt l y)=true:=by
  rw[List.all_eq_true]
  intro y hy
  obtain⟨j,hj,rfl⟩:=List.getElem_of_mem hy
  exact ht j hj
 rw[this,ha];simp
def yM (qf:ByteArray)(L l:List Rec):Int:=if jl (zP qf L) l≠0 then jl (zP qf L) l else if Xj L l=true then 0 else 8
theorem jy {k:Nat}{v:Int}(hk:k<l.length)(h0:∀j (hj:j<l.length),j<k→zP qf L l[j]=0)(hv:zP qf L l[k]=v)(hn:v≠0):yM qf L l=v:=by
 have h:=uY hk h0 (by rw[hv];exact hn)
 unfold yM
 rw[h,hv,if_pos hn]
theorem want_bad {k:Nat}(h0:jl (zP qf L) l=0)(hk:k<l.length)(hb:vP L l l[k]=false):yM qf L l=8:=by
 have:Xj L l=false:=by
  show(l.all (vP L l))=false
  rw[List.all_eq_false]
  exact⟨_,List.getElem_mem hk,by rw[hb];simp⟩
 unfold yM
 rw[h0,this];rfl
theorem conds_ok (h0:jl (zP qf L) l=0)(h:∀j (hj:j<l.length),vP L l l[j]=true):yM qf L l=0:=by
 have:Xj L l=true:=by
  show(l.all (vP L l))=true
  rw[List.all_eq_true]
  intro y hy
  obtain⟨j,hj,rfl⟩:=List.getElem_of_mem hy
  exact h j hj
 unfold yM
 rw[h0,this];rfl
theorem any_next {α:Type}(f:α→Bool){l:List α}{k:Nat}(h:k<l.length):(l.take (k+1)).any f=((l.take k).any f || f l[k]):=by
 rw[List.take_succ_eq_append_getElem h,List.any_append]
 simp
end
end up
theorem yP {w:World}{b off n cap:Nat}{l:List Rec}(h:qy w (.slice (some ⟨b,off,none⟩) n cap) l){k:Nat}(hk:k<l.length):QT w b (off+k*5) l[k]:=by
 obtain⟨a,c,hv,_,hr⟩:=h
 obtain⟨b',off',e,_,hra⟩:=hr k hk
 simp only[Value.slice.injEq]at hv
 rw[e]at hv
 have h1:=hv.1
 simp only[Option.some.injEq,Addr.mk.injEq]at h1
 obtain⟨rfl,rfl,-⟩:=h1
 exact hra
theorem yI {w:World}{a:Option Addr}{n cap:Nat}{l:List Rec}(h:qy w (.slice a n cap) l)(h0:0<l.length):∃b off,a=some ⟨b,off,none⟩:=by
 obtain⟨a',c,hv,_,hr⟩:=h
 obtain⟨b',off',e,_,_⟩:=hr 0 h0
 simp only[Value.slice.injEq]at hv
 exact⟨b',off',hv.1.trans e⟩
theorem VL (z:Nat)(qf:ByteArray)(hap:qf.size≤1099511627776)(L l:List Rec)(hva:zn.Valid qf L)(hl:l.length≤1000000)(hsz:∀x∈l,x.owner.size≤1099511627776)(v:Value)(w:World)(hrv:qy w v l)(hz:vO w z qf L):
 Calls Tryz.prog 36 #[.pointer (some ⟨z,0,none⟩),v] w fun e w'=>e= .returned (.int .i64 (up.yM qf L l))∧Below w.heap.size w w':=by
 have HZ:=Lib.hid (show ∀X,Below w.heap.size w X→vO X z qf L from fun X hX=>hz.below hX)
 have HZ0:=Lib.hid (show ∀X,Below w.heap.size w X→X.cell? ⟨z,0,none⟩=some (.string qf) from fun X hX=>by
  obtain⟨g,cap,h1,_⟩:=hz
  rw[qg ((hX.block z (qw h1)).trans h1)];rfl)
 have HV:=Lib.hid hrv
 obtain⟨va,vc,rfl,-⟩:=id hrv
 have HS:=Lib.hid hsz;have HVA:=Lib.hid hva
 clear hrv hz hsz hva
 go_enter Tryz.func36,Tryz.ntmps36
 go_wp2_with fail
 go_loopw [18] (fun kv wr=>∃k:Nat,k≤l.length∧kv= .int .i64 (k:Int)∧Hid ((∀j (hj:j<l.length),j<k→up.zP qf L l[j]=0)∧Below w.heap.size w wr)) (fun kv _=>l.length-(intOf kv).toNat)
 case atStart=>exact⟨0,Nat.zero_le _,rfl,Lib.hid ⟨fun j hj h=>absurd h (Nat.not_lt_zero _),Below.refl _ _⟩⟩
 case round=>
  obtain⟨k,hk,rfl,HR⟩:=hrel
  obtain⟨w3,hw3⟩:∃X:World,X=wr:=⟨_,rfl⟩
  subst hw3
  by_cases hlt:k<l.length
  ·obtain⟨bb,off,rfl⟩:=yI HV.out (Nat.lt_of_le_of_lt (Nat.zero_le _) hlt)
   have hki:(k:Int)<(l.length:Int):=by omega
   obtain⟨c0,c1,c2,c3,c4⟩:=yP (HV.out.below HR.out.2) hlt
   obtain⟨x,hx⟩:∃x,x=l[k]:=⟨_,rfl⟩
   rw[← hx]at c0 c1 c2 c3 c4
   obtain⟨wa,hwa⟩:∃W,W=w3.alloc (.cells (recC x).toArray 51):=⟨_,rfl⟩
   obtain⟨hBa,hsa,hxa⟩:=qM w3 wa x hwa
   obtain⟨bx,hbx⟩:∃b,b=w3.heap.size:=⟨_,rfl⟩
   rw[← hbx]at hxa
   have zU:bx<wa.heap.size:=by omega
   have HWA:=Lib.hid hwa;have HX:=Lib.hid hx;have HLT:=Lib.hid hlt;have HXA:=Lib.hid hxa;have HBX:=Lib.hid hbx;have yH:=Lib.hid zU
   have HBA:=Lib.hid (Below.trans HR.out.2 (hBa.mono (Below.size HR.out.2)))
   clear hwa hx hBa hsa hxa hbx zU
   go_upto_region 4 with fail
   rw[← HWA.out,← HBX.out]
   clear c0 c1 c2 c3 c4 hki
   obtain⟨x0,x1,x2,x3,x4⟩:=id HXA.out
   have HXS:=Lib.hid (show x.owner.size≤1099511627776 by rw[HX.out];exact HS.out _ (List.getElem_mem HLT.out))
   by_cases kt:x.ttl=0
   ·have d0:(x.ttl != 0)=false:=by rw[bne_eq_false_iff_eq];exact kt
    have HT:=Lib.hid kt
    clear kt
    go_upto_region 6 with fail
    clear d0
    have z0:=HZ0.out wa HBA.out
    obtain⟨ib,hib⟩:∃ib,ib=qU x.owner qf:=⟨_,rfl⟩
    have CW:Hid (∀p,Calls Tryz.prog 77 #[.string x.owner,.string qf] (gw wa p) fun e w''=>e= .returned (.bool ib)∧∃p',w''=gw wa p'):=Lib.hid fun p=>by rw[hib];exact qL (jL x.owner qf HXS.out hap _)
    have k0:=qh x0;have kz:=qh z0
    have HIB:=Lib.hid hib
    clear hib z0
    refine qj (by kernel_rfl) (by kernel_rfl) ?_
    repeat (with_reducible refine wpQuiet_step (fun K hK=>?_);go_simp;(try simp only[undef]);first | (with_reducible refine hK _ ?_;clear hK K) | (apply Exists.intro;refine⟨fun _=>?_,hK _ ?_⟩;(first | (go_at_call 77;with_reducible exact CW.out _));clear hK K) | (with_reducible refine⟨fun _ h=>(by cases h),?_⟩;with_reducible refine hK _ ?_;clear hK K))
    refine wpQuiet_nil ?_
    (try simp only[show Value.tuple #[]=undef from rfl])
    intro U hU
    have hBU:Below wa.heap.size wa U:=by obtain⟨g,rfl⟩:=hU;exact qp _ g
    clear hU
    have HB5:=Lib.hid (HBA.out.trans (hBU.mono HBA.out.size))
    have V8:=Lib.hid (show bx<U.heap.size from Nat.lt_of_lt_of_le yH.out hBU.size)
    have HXW5:=Lib.hid (HXA.out.keep (hBU.block bx yH.out))
    clear hBU k0 kz x0 x1 x2 x3 x4
    cases ib
    ·have HFI:=Lib.hid (show up.yM qf L l=10 from up.jy HLT.out HR.out.1 (by rw[← HX.out];exact(up.cond_out HT.out HIB.out.symm)) (by decide))
     clear CW
     go_wp2_with fail
     go_ret
     exact⟨qH HFI.out.symm,HB5.out⟩
    ·obtain⟨x0,x1,x2,x3,x4⟩:=id HXW5.out
     by_cases k1:x.cls=1
     ·have d1:(x.cls == 1)=true:=by rw[beq_iff_eq];exact k1
      have K1:=Lib.hid k1
      clear k1
      have HG0:=Lib.hid (show up.zP qf L x=0 from(up.cond_in HT.out HIB.out.symm K1.out))
      have HBn:=Lib.hid HB5.out
      clear CW
      go_wp2_with fail
      go_roundw
      case rel=>
       have hrel:∀j (hj:j<l.length),j<k+1→up.zP qf L l[j]=0:=fun j hj h=>by
        rcases Nat.lt_or_ge j k with h2 | h2
        ·exact HR.out.1 j hj h2
        ·obtain rfl:j=k:=by omega
         exact(congrArg (up.zP qf L) HX.out.symm).trans HG0.out
       first
        | exact⟨k+1,by omega,by go_num,Lib.hid ⟨hrel,HBn.out⟩⟩
        | (repeat apply Exists.intro
           refine And.intro ?_ ?_
           rotate_left
           ·repeat (first | exact rfl | refine And.intro rfl ?_)
           exact⟨k+1,by omega,by go_num,Lib.hid ⟨hrel,HBn.out⟩⟩)
      case measure=>simp[intOf];omega
     ·have d0:(x.cls == 1)=false:=by rw[beq_eq_false_iff_ne];exact k1
      have K1:=Lib.hid k1
      by_cases k2:x.cls=255
      ·have d1:(x.cls == 255)=true:=by rw[beq_iff_eq];exact k2
       have n1:(x.cls != 255)=false:=by rw[bne_eq_false_iff_eq];exact k2
       have d2:(x.cls == 254)=false:=by rw[beq_eq_false_iff_ne];omega
       have K2:=Lib.hid k2
       clear k1 k2
       have HCR:=Lib.hid (fun hd=>up.JC (L:=L) HT.out HIB.out.symm true K2.out hd)
       by_cases kd:x.data.size=0
       ·have d4:=yg kd
        have HD:=Lib.hid kd
        clear kd
        go_wp2_with fail
        refine(Xy z qf L HVA.out.small HVA.out.named x.owner HXS.out x.typ _ (HZ.out _ HB5.out)).mono ?_
        rintro e w6 ⟨v6,rfl,hB6,hown6⟩
        have HXW:=Lib.hid (HXW5.out.keep (hB6.block bx V8.out))
        have Uu:=Lib.hid (Nat.lt_of_lt_of_le V8.out hB6.size)
        have HB6:=Lib.hid (Below.trans HB5.out (hB6.mono (Below.size HB5.out)))
        have HRA:=Lib.hid (qO hown6)
        obtain⟨va6,vc6,rfl,-⟩:=qC hown6
        obtain⟨R,hR⟩:∃R,R=zn.qD L (zn.zh x):=⟨_,rfl⟩
        have hR':zn.qD L (qm x.owner,x.typ)=R:=hR.symm
        rw[hR']
        rw[hR']at HRA
        have HRR:=Lib.hid hR
        clear hB6 hown6 hR hR' x0 x1 x2 x3 x4
        obtain⟨x0,x1,x2,x3,x4⟩:=id HXW.out
        obtain⟨rn,hrn⟩:∃rn,rn=R.length:=⟨_,rfl⟩
        rw[← hrn]
        obtain⟨sb0,hsb0⟩:∃sb,sb=decide (zn.qD L (zn.zh x)≠[]):=⟨_,rfl⟩
        have hgt:decide (0<rn)=sb0:=by
         rw[hsb0,← HRR.out,hrn]
         cases R with
         | nil=>simp
         | cons a b=>simp
        have HSB0:=Lib.hid hsb0
        clear hrn hsb0 HRA
        by_cases k5:x.typ=255
        ·have d5:(x.typ == 255)=true:=by rw[beq_iff_eq];exact k5
         have K5:=Lib.hid k5
         clear k5
         go_wp2_with fail
         refine(Xx z qf L HVA.out.small HVA.out.named x.owner HXS.out _ (HZ.out _ HB6.out)).mono ?_
         rintro e w7 ⟨rfl,hB7⟩
         have HB7:=Lib.hid (HB6.out.trans (hB7.mono HB6.out.size))
         have HXV:=Lib.hid (HXW.out.keep (hB7.block bx Uu.out))
         obtain⟨sb,hsb⟩:∃sb,sb=zn.yX L x.owner:=⟨_,rfl⟩
         rw[← hsb]
         have HSB:=Lib.hid hsb
         clear hB7 hsb hgt x0 x1 x2 x3 x4
         obtain⟨x0,x1,x2,x3,x4⟩:=id HXV.out
         cases sb
         ·have HFI:=Lib.hid (show up.yM qf L l=3 from up.jy HLT.out HR.out.1 (by rw[← HX.out];exact(by rw[HCR.out HD.out,if_pos K5.out,← HSB.out];rfl)) (by decide))
          clear HD
          go_wp2_with fail
          go_ret
          exact⟨qH HFI.out.symm,HB7.out⟩
         ·have HG0:=Lib.hid (show up.zP qf L x=0 from(by rw[HCR.out HD.out,if_pos K5.out,← HSB.out];rfl))
          have HBn:=Lib.hid HB7.out
          clear HD
          go_wp2_with fail
          go_roundw
          case rel=>
           have hrel:∀j (hj:j<l.length),j<k+1→up.zP qf L l[j]=0:=fun j hj h=>by
            rcases Nat.lt_or_ge j k with h2 | h2
            ·exact HR.out.1 j hj h2
            ·obtain rfl:j=k:=by omega
             exact(congrArg (up.zP qf L) HX.out.symm).trans HG0.out
           first
            | exact⟨k+1,by omega,by go_num,Lib.hid ⟨hrel,HBn.out⟩⟩
            | (repeat apply Exists.intro
               refine And.intro ?_ ?_
               rotate_left
               ·repeat (first | exact rfl | refine And.intro rfl ?_)
               exact⟨k+1,by omega,by go_num,Lib.hid ⟨hrel,HBn.out⟩⟩)
          case measure=>simp[intOf];omega
        ·have d5:(x.typ == 255)=false:=by rw[beq_eq_false_iff_ne];exact k5
         have K5:=Lib.hid k5
         have HSB:=HSB0
         obtain⟨sb,hsb⟩:∃sb,sb=sb0:=⟨_,rfl⟩
         subst hsb
         clear k5
         cases sb
         ·have HFI:=Lib.hid (show up.yM qf L l=8 from up.jy HLT.out HR.out.1 (by rw[← HX.out];exact(by rw[HCR.out HD.out,if_neg K5.out,← HSB.out];rfl)) (by decide))
          clear HD
          go_wp2_with fail
          go_ret
          exact⟨qH HFI.out.symm,HB6.out⟩
         ·have HG0:=Lib.hid (show up.zP qf L x=0 from(by rw[HCR.out HD.out,if_neg K5.out,← HSB.out];rfl))
          have HBn:=Lib.hid HB6.out
          clear HD
          go_wp2_with fail
          go_roundw
          case rel=>
           have hrel:∀j (hj:j<l.length),j<k+1→up.zP qf L l[j]=0:=fun j hj h=>by
            rcases Nat.lt_or_ge j k with h2 | h2
            ·exact HR.out.1 j hj h2
            ·obtain rfl:j=k:=by omega
             exact(congrArg (up.zP qf L) HX.out.symm).trans HG0.out
           first
            | exact⟨k+1,by omega,by go_num,Lib.hid ⟨hrel,HBn.out⟩⟩
            | (repeat apply Exists.intro
               refine And.intro ?_ ?_
               rotate_left
               ·repeat (first | exact rfl | refine And.intro rfl ?_)
               exact⟨k+1,by omega,by go_num,Lib.hid ⟨hrel,HBn.out⟩⟩)
          case measure=>simp[intOf];omega
       ·have d4:=yF kd
        have HFI:=Lib.hid (show up.yM qf L l=1 from up.jy HLT.out HR.out.1 (by rw[← HX.out];exact(up.JD HT.out HIB.out.symm K1.out kd)) (by decide))
        clear kd
        go_wp2_with fail
        go_ret
        exact⟨qH HFI.out.symm,HB5.out⟩
      ·have d1:(x.cls == 255)=false:=by rw[beq_eq_false_iff_ne];exact k2
       have n1:(x.cls != 255)=true:=by rw[bne_iff_ne];exact k2
       by_cases k3:x.cls=254
       ·have d2:(x.cls == 254)=true:=by rw[beq_iff_eq];exact k3
        have n2:(x.cls != 254)=false:=by rw[bne_eq_false_iff_eq];exact k3
        have K2:=Lib.hid k3
        clear k1 k2 k3
        have HCR:=Lib.hid (fun hd=>up.JC (L:=L) HT.out HIB.out.symm false K2.out hd)
        by_cases kd:x.data.size=0
        ·have d4:=yg kd
         have HD:=Lib.hid kd
         clear kd
         go_wp2_with fail
         refine(Xy z qf L HVA.out.small HVA.out.named x.owner HXS.out x.typ _ (HZ.out _ HB5.out)).mono ?_
         rintro e w6 ⟨v6,rfl,hB6,hown6⟩
         have HXW:=Lib.hid (HXW5.out.keep (hB6.block bx V8.out))
         have Uu:=Lib.hid (Nat.lt_of_lt_of_le V8.out hB6.size)
         have HB6:=Lib.hid (Below.trans HB5.out (hB6.mono (Below.size HB5.out)))
         have HRA:=Lib.hid (qO hown6)
         obtain⟨va6,vc6,rfl,-⟩:=qC hown6
         obtain⟨R,hR⟩:∃R,R=zn.qD L (zn.zh x):=⟨_,rfl⟩
         have hR':zn.qD L (qm x.owner,x.typ)=R:=hR.symm
         rw[hR']
         rw[hR']at HRA
         have HRR:=Lib.hid hR
         clear hB6 hown6 hR hR' x0 x1 x2 x3 x4
         obtain⟨x0,x1,x2,x3,x4⟩:=id HXW.out
         obtain⟨rn,hrn⟩:∃rn,rn=R.length:=⟨_,rfl⟩
         rw[← hrn]
         obtain⟨sb0,hsb0⟩:∃sb,sb=decide (zn.qD L (zn.zh x)≠[]):=⟨_,rfl⟩
         have hgt:decide (0<rn)=sb0:=by
          rw[hsb0,← HRR.out,hrn]
          cases R with
          | nil=>simp
          | cons a b=>simp
         have HSB0:=Lib.hid hsb0
         clear hrn hsb0 HRA
         by_cases k5:x.typ=255
         ·have d5:(x.typ == 255)=true:=by rw[beq_iff_eq];exact k5
          have K5:=Lib.hid k5
          clear k5
          go_wp2_with fail
          refine(Xx z qf L HVA.out.small HVA.out.named x.owner HXS.out _ (HZ.out _ HB6.out)).mono ?_
          rintro e w7 ⟨rfl,hB7⟩
          have HB7:=Lib.hid (HB6.out.trans (hB7.mono HB6.out.size))
          have HXV:=Lib.hid (HXW.out.keep (hB7.block bx Uu.out))
          obtain⟨sb,hsb⟩:∃sb,sb=zn.yX L x.owner:=⟨_,rfl⟩
          rw[← hsb]
          have HSB:=Lib.hid hsb
          clear hB7 hsb hgt x0 x1 x2 x3 x4
          obtain⟨x0,x1,x2,x3,x4⟩:=id HXV.out
          cases sb
          ·have HG0:=Lib.hid (show up.zP qf L x=0 from(by rw[HCR.out HD.out,if_pos K5.out,← HSB.out];rfl))
           have HBn:=Lib.hid HB7.out
           clear HD
           go_wp2_with fail
           go_roundw
           case rel=>
            have hrel:∀j (hj:j<l.length),j<k+1→up.zP qf L l[j]=0:=fun j hj h=>by
             rcases Nat.lt_or_ge j k with h2 | h2
             ·exact HR.out.1 j hj h2
             ·obtain rfl:j=k:=by omega
              exact(congrArg (up.zP qf L) HX.out.symm).trans HG0.out
            first
             | exact⟨k+1,by omega,by go_num,Lib.hid ⟨hrel,HBn.out⟩⟩
             | (repeat apply Exists.intro
                refine And.intro ?_ ?_
                rotate_left
                ·repeat (first | exact rfl | refine And.intro rfl ?_)
                exact⟨k+1,by omega,by go_num,Lib.hid ⟨hrel,HBn.out⟩⟩)
           case measure=>simp[intOf];omega
          ·have HFI:=Lib.hid (show up.yM qf L l=6 from up.jy HLT.out HR.out.1 (by rw[← HX.out];exact(by rw[HCR.out HD.out,if_pos K5.out,← HSB.out];rfl)) (by decide))
           clear HD
           go_wp2_with fail
           go_ret
           exact⟨qH HFI.out.symm,HB7.out⟩
         ·have d5:(x.typ == 255)=false:=by rw[beq_eq_false_iff_ne];exact k5
          have K5:=Lib.hid k5
          have HSB:=HSB0
          obtain⟨sb,hsb⟩:∃sb,sb=sb0:=⟨_,rfl⟩
          subst hsb
          clear k5
          cases sb
          ·have HG0:=Lib.hid (show up.zP qf L x=0 from(by rw[HCR.out HD.out,if_neg K5.out,← HSB.out];rfl))
           have HBn:=Lib.hid HB6.out
           clear HD
           go_wp2_with fail
           go_roundw
           case rel=>
            have hrel:∀j (hj:j<l.length),j<k+1→up.zP qf L l[j]=0:=fun j hj h=>by
             rcases Nat.lt_or_ge j k with h2 | h2
             ·exact HR.out.1 j hj h2
             ·obtain rfl:j=k:=by omega
              exact(congrArg (up.zP qf L) HX.out.symm).trans HG0.out
            first
             | exact⟨k+1,by omega,by go_num,Lib.hid ⟨hrel,HBn.out⟩⟩
             | (repeat apply Exists.intro
                refine And.intro ?_ ?_
                rotate_left
                ·repeat (first | exact rfl | refine And.intro rfl ?_)
                exact⟨k+1,by omega,by go_num,Lib.hid ⟨hrel,HBn.out⟩⟩)
           case measure=>simp[intOf];omega
          ·have HFI:=Lib.hid (show up.yM qf L l=7 from up.jy HLT.out HR.out.1 (by rw[← HX.out];exact(by rw[HCR.out HD.out,if_neg K5.out,← HSB.out];rfl)) (by decide))
           clear HD
           go_wp2_with fail
           go_ret
           exact⟨qH HFI.out.symm,HB6.out⟩
        ·have d4:=yF kd
         have HFI:=Lib.hid (show up.yM qf L l=1 from up.jy HLT.out HR.out.1 (by rw[← HX.out];exact(up.JD HT.out HIB.out.symm K1.out kd)) (by decide))
         clear kd
         go_wp2_with fail
         go_ret
         exact⟨qH HFI.out.symm,HB5.out⟩
       ·have n2:(x.cls != 254)=true:=by rw[bne_iff_ne];exact k3
        have HC0:=up.cond_cls (L:=L) HT.out HIB.out.symm k1 k2 k3
        have HFI:=Lib.hid (show up.yM qf L l=1 from up.jy HLT.out HR.out.1 (by rw[← HX.out];exact HC0) (by decide))
        clear k1 k2 k3 HC0
        go_wp2_with fail
        go_ret
        exact⟨qH HFI.out.symm,HB5.out⟩
   ·have d0:(x.ttl != 0)=true:=by rw[bne_iff_ne];exact kt
    have HFI:=Lib.hid (show up.yM qf L l=1 from up.jy HLT.out HR.out.1 (by rw[← HX.out];exact(up.cond_ttl kt)) (by decide))
    clear kt
    go_wp2_with fail
    go_ret
    exact⟨qH HFI.out.symm,HBA.out⟩
  ·obtain rfl:k=l.length:=by omega
   have HF0:=Lib.hid (show up.jl (up.zP qf L) l=0 from up.Yo fun j hj=>HR.out.1 j hj hj)
   clear hlt
   go_wp2_with fail
   have HB3:=Lib.hid HR.out.2
   clear HR
   go_loopw [86] (fun kv wr=>∃k:Nat,k≤l.length∧kv= .int .i64 (k:Int)∧Hid ((∀j (hj:j<l.length),j<k→up.vP L l l[j]=true)∧Below w.heap.size w wr)) (fun kv _=>l.length-(intOf kv).toNat)
   case atStart=>exact⟨0,Nat.zero_le _,rfl,Lib.hid ⟨fun j hj h=>absurd h (Nat.not_lt_zero _),HB3.out⟩⟩
   case round=>
    obtain⟨k,hk,rfl,HR⟩:=hrel
    obtain⟨w4,hw4⟩:∃X:World,X=wr:=⟨_,rfl⟩
    subst hw4
    by_cases hlt:k<l.length
    ·obtain⟨bb,off,rfl⟩:=yI HV.out (Nat.lt_of_le_of_lt (Nat.zero_le _) hlt)
     have hki:(k:Int)<(l.length:Int):=by omega
     obtain⟨c0,c1,c2,c3,c4⟩:=yP (HV.out.below HR.out.2) hlt
     obtain⟨x,hx⟩:∃x,x=l[k]:=⟨_,rfl⟩
     rw[← hx]at c0 c1 c2 c3 c4
     obtain⟨wa,hwa⟩:∃W,W=w4.alloc (.cells (recC x).toArray 51):=⟨_,rfl⟩
     obtain⟨hBa,hsa,hxa⟩:=qM w4 wa x hwa
     obtain⟨bx,hbx⟩:∃b,b=w4.heap.size:=⟨_,rfl⟩
     rw[← hbx]at hxa
     have zU:bx<wa.heap.size:=by omega
     have HWA:=Lib.hid hwa;have HX:=Lib.hid hx;have HLT:=Lib.hid hlt;have HXA:=Lib.hid hxa;have HBX:=Lib.hid hbx;have yH:=Lib.hid zU
     have HBA:=Lib.hid (Below.trans HR.out.2 (hBa.mono (Below.size HR.out.2)))
     clear hwa hx hBa hsa hxa hbx zU
     go_upto_region 26 with fail
     rw[← HWA.out,← HBX.out]
     clear c0 c1 c2 c3 c4 hki
     obtain⟨x0,x1,x2,x3,x4⟩:=id HXA.out
     have HXS:=Lib.hid (show x.owner.size≤1099511627776 by rw[HX.out];exact HS.out _ (List.getElem_mem HLT.out))
     by_cases k1:x.cls=1
     ·have d1:(x.cls != 1)=false:=by rw[bne_eq_false_iff_eq];exact k1
      have K1:=Lib.hid k1
      clear k1
      go_wp2_with fail
      refine(Xy z qf L HVA.out.small HVA.out.named x.owner HXS.out x.typ _ (HZ.out _ HBA.out)).mono ?_
      rintro e w6 ⟨v6,rfl,hB6,hown6⟩
      have HXW:=Lib.hid (HXA.out.keep (hB6.block bx yH.out))
      have Uu:=Lib.hid (Nat.lt_of_lt_of_le yH.out hB6.size)
      have HB6:=Lib.hid (Below.trans HBA.out (hB6.mono (Below.size HBA.out)))
      have HRA:=Lib.hid (qO hown6)
      obtain⟨va6,vc6,rfl,-⟩:=qC hown6
      obtain⟨R,hR⟩:∃R,R=zn.qD L (zn.zh x):=⟨_,rfl⟩
      have hR':zn.qD L (qm x.owner,x.typ)=R:=hR.symm
      rw[hR']
      rw[hR']at HRA
      have HRR:=Lib.hid hR
      clear hB6 hown6 hR hR' x0 x1 x2 x3 x4
      obtain⟨x0,x1,x2,x3,x4⟩:=id HXW.out
      have HRL:=Lib.hid (show R.length≤2000 by rw[HRR.out];exact Nat.le_trans (UR _ _) HVA.out.small)
      have HRS:=Lib.hid (show ∀r∈R,r.owner.size≤1099511627776 from fun r hr=>by
       rw[HRR.out]at hr
       have:=qP (HVA.out.named r (zn.ky.1 hr).1)
       omega)
      clear d1
      go_upto_region 28 with fail
      go_wp2_with fail
      refine(among_any R (Nat.le_trans HRL.out (by decide)) HRS.out x HXS.out _ _ HRA.out).mono ?_
      rintro e w7 ⟨rfl,hB7⟩
      have HB7:=Lib.hid (HB6.out.trans (hB7.mono HB6.out.size))
      have HRB:=Lib.hid (HRA.out.below hB7)
      obtain⟨ab,hab⟩:∃ab,ab=R.any fun y=>zn.qW y x:=⟨_,rfl⟩
      rw[← hab]
      have HAB:=Lib.hid hab
      clear hB7 hab x0 x1 x2 x3 x4
      cases ab
      ·have HFI:=Lib.hid (show up.yM qf L l=8 from up.want_bad HF0.out HLT.out (by rw[← HX.out];exact(up.want_among K1.out (by rw[← HRR.out];exact HAB.out.symm))))
       clear HRA
       go_wp2_with fail
       go_ret
       exact⟨qH HFI.out.symm,HB7.out⟩
      ·go_wp2_with fail
       go_loopw [105] (fun kv wr=>∃k:Nat,k≤R.length∧kv= .int .i64 (k:Int)∧Hid ((∀j (hj:j<R.length),j<k→up.Kt l R[j]=true)∧Below w7.heap.size w7 wr)) (fun kv _=>R.length-(intOf kv).toNat)
       case atStart=>exact⟨0,Nat.zero_le _,rfl,Lib.hid ⟨fun j hj h=>absurd h (Nat.not_lt_zero _),Below.refl _ _⟩⟩
       case round=>
        obtain⟨kq,hkq,rfl,HR3⟩:=hrel
        obtain⟨w8,hw8⟩:∃X:World,X=wr:=⟨_,rfl⟩
        subst hw8
        by_cases ui:kq<R.length
        ·obtain⟨bb3,off3,rfl⟩:=yI HRB.out (Nat.lt_of_le_of_lt (Nat.zero_le _) ui)
         have X9:(kq:Int)<(R.length:Int):=by omega
         obtain⟨c0,c1,c2,c3,c4⟩:=yP (HRB.out.below HR3.out.2) ui
         obtain⟨xq,hx⟩:∃x,x=R[kq]:=⟨_,rfl⟩
         rw[← hx]at c0 c1 c2 c3 c4
         obtain⟨waq,hwa⟩:∃W,W=w8.alloc (.cells (recC xq).toArray 51):=⟨_,rfl⟩
         obtain⟨hBa,hsa,hxa⟩:=qM w8 waq xq hwa
         obtain⟨bxq,hbx⟩:∃b,b=w8.heap.size:=⟨_,rfl⟩
         rw[← hbx]at hxa
         have zU:bxq<waq.heap.size:=by omega
         have HWAq:=Lib.hid hwa;have HXq:=Lib.hid hx;have HLTq:=Lib.hid ui;have HXAq:=Lib.hid hxa;have HBXq:=Lib.hid hbx;have HBXLq:=Lib.hid zU
         have HBAq:=Lib.hid (Below.trans HR3.out.2 (hBa.mono (Below.size HR3.out.2)))
         clear hwa hx hBa hsa hxa hbx zU
         go_upto_region 33 with fail
         rw[← HWAq.out,← HBXq.out]
         clear c0 c1 c2 c3 c4 X9
         obtain⟨x0,x1,x2,x3,x4⟩:=id HXAq.out
         have HYS:=Lib.hid (show xq.owner.size≤1099511627776 by rw[HXq.out];exact HRS.out _ (List.getElem_mem HLTq.out))
         have HVq:=Lib.hid (HV.out.below (HB7.out.trans (HBAq.out.mono HB7.out.size)))
         clear x0 x1 x2 x3 x4
         go_wp2_with fail
         go_loopw [111,13] (fun kv tv wr=>∃k:Nat,k≤l.length∧kv= .int .i64 (k:Int)∧tv= .bool ((l.take k).any fun v=>decide (v.cls=1) && zn.qW v xq)∧Hid (Below waq.heap.size waq wr)) (fun kv _ _=>l.length-(intOf kv).toNat)
         case atStart=>exact⟨0,Nat.zero_le _,rfl,by simp,Lib.hid (Below.refl _ _)⟩
         case round=>
          obtain⟨kv,hkv,rfl,rfl,HR4⟩:=hrel
          obtain⟨w9,hw9⟩:∃X:World,X=wr:=⟨_,rfl⟩
          subst hw9
          obtain⟨tb,htb⟩:∃tb,tb=(l.take kv).any fun v=>decide (v.cls=1) && zn.qW v xq:=⟨_,rfl⟩
          rw[← htb]
          have HTB:=Lib.hid htb
          clear htb
          by_cases hltv:kv<l.length
          ·have hkiv:(kv:Int)<(l.length:Int):=by omega
           obtain⟨c0,c1,c2,c3,c4⟩:=yP (HVq.out.below HR4.out) hltv
           obtain⟨xv,hx⟩:∃x,x=l[kv]:=⟨_,rfl⟩
           rw[← hx]at c0 c1 c2 c3 c4
           obtain⟨wav,hwa⟩:∃W,W=w9.alloc (.cells (recC xv).toArray 51):=⟨_,rfl⟩
           obtain⟨hBa,hsa,hxa⟩:=qM w9 wav xv hwa
           obtain⟨bxv,hbx⟩:∃b,b=w9.heap.size:=⟨_,rfl⟩
           rw[← hbx]at hxa
           have zU:bxv<wav.heap.size:=by omega
           have HWAv:=Lib.hid hwa;have HXv:=Lib.hid hx;have HLTv:=Lib.hid hltv;have HXAv:=Lib.hid hxa;have HBXv:=Lib.hid hbx;have HBXLv:=Lib.hid zU
           have HBAv:=Lib.hid (Below.trans HR4.out (hBa.mono (Below.size HR4.out)))
           clear hwa hx hBa hsa hxa hbx zU
           go_upto_region 37 with fail
           rw[← HWAv.out,← HBXv.out]
           clear c0 c1 c2 c3 c4 hkiv
           obtain⟨x0,x1,x2,x3,x4⟩:=id HXAv.out
           have HXvS:=Lib.hid (show xv.owner.size≤1099511627776 by rw[HXv.out];exact HS.out _ (List.getElem_mem HLTv.out))
           have HNX:=Lib.hid (show(tb || (decide (xv.cls=1) && zn.qW xv xq))=((l.take (kv+1)).any fun v=>decide (v.cls=1) && zn.qW v xq) by rw[up.any_next _ hltv,HTB.out,HXv.out])
           obtain⟨y0,y1,y2,y3,y4⟩:=HXAq.out.keep (HBAv.out.block bxq HBXLq.out)
           cases tb
           ·by_cases c1:xv.cls=1
            ·have d1:(xv.cls == 1)=true:=by rw[beq_iff_eq];exact c1
             have C1:=Lib.hid c1
             clear c1
             go_wp2_with fail
             refine(xz xv xq HXvS.out HYS.out _).mono ?_
             rintro e w10 ⟨rfl,jo⟩
             have zw:=Lib.hid (HBAv.out.trans (jo.mono HBAv.out.size))
             have HN2:=Lib.hid (show zn.qW xv xq=((l.take (kv+1)).any fun v=>decide (v.cls=1) && zn.qW v xq) by rw[← HNX.out,C1.out];simp)
             clear jo x0 x1 x2 x3 x4 y0 y1 y2 y3 y4 d1
             go_wp2_with fail
             go_roundw
             case rel=>
              first
               | exact⟨kv+1,by omega,by go_num,congrArg Value.bool HN2.out,Lib.hid zw.out⟩
               | (repeat apply Exists.intro
                  refine And.intro ?_ ?_
                  rotate_left
                  ·repeat (first | exact rfl | refine And.intro rfl ?_)
                  exact⟨kv+1,by omega,by go_num,congrArg Value.bool HN2.out,Lib.hid zw.out⟩)
             case measure=>simp[intOf];omega
            ·have d1:(xv.cls == 1)=false:=by rw[beq_eq_false_iff_ne];exact c1
             have HN2:=Lib.hid (show false=((l.take (kv+1)).any fun v=>decide (v.cls=1) && zn.qW v xq) by rw[← HNX.out];simp[c1])
             clear c1
             go_wp2_with fail
             go_roundw
             case rel=>
              first
               | exact⟨kv+1,by omega,by go_num,congrArg Value.bool HN2.out,Lib.hid HBAv.out⟩
               | (repeat apply Exists.intro
                  refine And.intro ?_ ?_
                  rotate_left
                  ·repeat (first | exact rfl | refine And.intro rfl ?_)
                  exact⟨kv+1,by omega,by go_num,congrArg Value.bool HN2.out,Lib.hid HBAv.out⟩)
             case measure=>simp[intOf];omega
           ·have HN2:=Lib.hid (show true=((l.take (kv+1)).any fun v=>decide (v.cls=1) && zn.qW v xq) by rw[← HNX.out];rfl)
            go_wp2_with fail
            go_roundw
            case rel=>
             first
              | exact⟨kv+1,by omega,by go_num,congrArg Value.bool HN2.out,Lib.hid HBAv.out⟩
              | (repeat apply Exists.intro
                 refine And.intro ?_ ?_
                 rotate_left
                 ·repeat (first | exact rfl | refine And.intro rfl ?_)
                 exact⟨kv+1,by omega,by go_num,congrArg Value.bool HN2.out,Lib.hid HBAv.out⟩)
            case measure=>simp[intOf];omega
          ·obtain rfl:kv=l.length:=by omega
           have HTD:=Lib.hid (show up.Kt l xq=tb by rw[HTB.out,List.take_length];rfl)
           have HBC:=Lib.hid (HBAq.out.trans (HR4.out.mono HBAq.out.size))
           clear hltv
           cases tb
           ·have HBD:=Lib.hid (HB7.out.trans (HBC.out.mono HB7.out.size))
            have HFI:=Lib.hid (show up.yM qf L l=8 from up.want_bad HF0.out HLT.out (by rw[← HX.out];exact(up.want_told HRR.out K1.out HLTq.out (by rw[← HXq.out];exact HTD.out))))
            clear HRA
            go_wp2_with fail
            go_ret
            exact⟨qH HFI.out.symm,HBD.out⟩
           ·have hrl:=HRL.out
            go_wp2_with fail
            go_roundw
            case rel=>
             have hrel:∀j (hj:j<R.length),j<kq+1→up.Kt l R[j]=true:=fun j hj h=>by
              rcases Nat.lt_or_ge j kq with h2 | h2
              ·exact HR3.out.1 j hj h2
              ·obtain rfl:j=kq:=by omega
               exact(congrArg (up.Kt l) HXq.out.symm).trans HTD.out
             first
              | exact⟨kq+1,by omega,by go_num,Lib.hid ⟨hrel,HBC.out⟩⟩
              | (repeat apply Exists.intro
                 refine And.intro ?_ ?_
                 rotate_left
                 ·repeat (first | exact rfl | refine And.intro rfl ?_)
                 exact⟨kq+1,by omega,by go_num,Lib.hid ⟨hrel,HBC.out⟩⟩)
            case measure=>simp[intOf];omega
        ·obtain rfl:kq=R.length:=by omega
         have HBD:=Lib.hid (HB7.out.trans (HR3.out.2.mono HB7.out.size))
         clear ui
         have HG0:=Lib.hid (show up.vP L l x=true from(up.want_all HRR.out HAB.out.symm (fun j hj=>HR3.out.1 j hj hj)))
         have HBn:=Lib.hid HBD.out
         clear HRA
         go_wp2_with fail
         go_roundw
         case rel=>
          have hrel:∀j (hj:j<l.length),j<k+1→up.vP L l l[j]=true:=fun j hj h=>by
           rcases Nat.lt_or_ge j k with h2 | h2
           ·exact HR.out.1 j hj h2
           ·obtain rfl:j=k:=by omega
            exact(congrArg (up.vP L l) HX.out.symm).trans HG0.out
          first
           | exact⟨k+1,by omega,by go_num,Lib.hid ⟨hrel,HBn.out⟩⟩
           | (repeat apply Exists.intro
              refine And.intro ?_ ?_
              rotate_left
              ·repeat (first | exact rfl | refine And.intro rfl ?_)
              exact⟨k+1,by omega,by go_num,Lib.hid ⟨hrel,HBn.out⟩⟩)
         case measure=>simp[intOf];omega
     ·have d1:(x.cls != 1)=true:=by rw[bne_iff_ne];exact k1
      have HG0:=Lib.hid (show up.vP L l x=true from(up.xw k1))
      have HBn:=Lib.hid HBA.out
      clear k1
      go_wp2_with fail
      go_roundw
      case rel=>
       have hrel:∀j (hj:j<l.length),j<k+1→up.vP L l l[j]=true:=fun j hj h=>by
        rcases Nat.lt_or_ge j k with h2 | h2
        ·exact HR.out.1 j hj h2
        ·obtain rfl:j=k:=by omega
         exact(congrArg (up.vP L l) HX.out.symm).trans HG0.out
       first
        | exact⟨k+1,by omega,by go_num,Lib.hid ⟨hrel,HBn.out⟩⟩
        | (repeat apply Exists.intro
           refine And.intro ?_ ?_
           rotate_left
           ·repeat (first | exact rfl | refine And.intro rfl ?_)
           exact⟨k+1,by omega,by go_num,Lib.hid ⟨hrel,HBn.out⟩⟩)
      case measure=>simp[intOf];omega
    ·obtain rfl:k=l.length:=by omega
     have HFI:=Lib.hid (show up.yM qf L l=0 from up.conds_ok HF0.out fun j hj=>HR.out.1 j hj hj)
     clear hlt
     go_wp2_with fail
     go_ret
     exact⟨qH HFI.out.symm,HR.out.2⟩
end Go.Proofs.YtdjjemajfphjaaaGreat
