import Derived.Test.YtdjjemajfphjaaaGreatQUpdZ
set_option maxRecDepth 100000
set_option maxHeartbeats 8000000
namespace Go.Proofs.YtdjjemajfphjaaaGreat
open Go.RowKit Go.Shelf nm od
namespace up
def YP (qf:ByteArray)(l:List Rec):List Rec:=l.filter fun y=>decide (y.typ=2) && qz y.owner qf
theorem serv_next {qf:ByteArray}{l:List Rec}{k:Nat}(hk:k<l.length):(YP qf (l.take (k+1))).length=(YP qf (l.take k)).length+if(decide (l[k].typ=2) && qz l[k].owner qf)=true then 1 else 0:=by
 unfold YP
 rw[List.take_succ_eq_append_getElem hk,List.filter_append,List.length_append]
 congr 1
 split
 ·rename_i h;simp only[List.filter_cons,h,if_true,List.filter_nil,List.length_singleton]
 ·rename_i h;simp only[List.filter_cons,h,List.filter_nil];rfl
theorem serv_le (qf:ByteArray)(l:List Rec)(k:Nat):(YP qf (l.take k)).length≤l.length:=Nat.le_trans (List.length_filter_le _ _) (by rw[List.length_take];omega)
end up
theorem utake_any (x:Rec)(hx:ql x.owner=true)(base st:Nat)(qf:ByteArray)(l:List Rec)(hl:l.length≤100000)(hn:∀y∈l,ql y.owner=true)(w:World)(hb:base≤w.heap.size)(hs:zR w base st qf l):
 Calls Tryz.prog 43 #[.pointer (some ⟨st,0,none⟩),zB x] w fun e w'=>xI w base st qf (up.Zz qf l x) e w':=by
 have hmf:∀(fn:Fn) (first cap:Array Value) (w:World),(Instr.makeFunc fn first cap).run Tryz.prog w= .ok (.func fn first cap) w:=fun _ _ _ _=>rfl
 obtain⟨w1,hw1⟩:∃W,W=w.alloc (.cells (recC x).toArray 51):=⟨_,rfl⟩
 obtain⟨hB1,hs1,hxa⟩:=qM w w1 x hw1
 obtain⟨bx,hbx⟩:∃b,b=w.heap.size:=⟨_,rfl⟩
 rw[← hbx]at hxa
 have HW1:=Lib.hid hw1;have HBX:=Lib.hid hbx;have HXX:=Lib.hid hxa;have LX:=Lib.hid (show bx<w1.heap.size by omega);have HB1:=Lib.hid (hB1.mono hb)
 have HST:=Lib.hid (hs.below hB1);have HX:=Lib.hid hx;have HN:=Lib.hid hn;have HBL:=Lib.hid (show base≤w1.heap.size by omega)
 obtain⟨va,vc,hsb,hrow⟩:=HST.out.parts
 have HSB:=Lib.hid hsb;have HV:=Lib.hid (qO hrow)
 have s1:w1.cell? ⟨st,1,none⟩=some (.slice va l.length vc):=by rw[qg hsb];rfl
 have HS0:=Lib.hid (show w1.cell? ⟨st,0,none⟩=some (.string qf) by rw[qg hsb];rfl)
 have LS:=Lib.hid (qw hsb)
 clear hw1 hB1 hs1 hbx hxa hx hn hb hs hsb hrow
 go_enter Tryz.func43,Tryz.ntmps43
 go_upto_region 1 with fail
 rw[← HW1.out,← HBX.out]
 go_wp2_with fail
 clear s1
 go_loopw [13,4] (fun kv nv wr=>∃k:Nat,k≤l.length∧kv= .int .i64 (k:Int)∧nv= .int .i64 (((up.YP qf (l.take k)).length:Nat):Int)∧Hid (Below w1.heap.size w1 wr)) (fun kv _ _=>l.length-(intOf kv).toNat)
 case atStart=>exact⟨0,Nat.zero_le _,rfl,rfl,Lib.hid (Below.refl _ _)⟩
 case round=>
  obtain⟨k,hk,rfl,rfl,HR⟩:=hrel
  obtain⟨w3,hw3⟩:∃X:World,X=wr:=⟨_,rfl⟩
  subst hw3
  obtain⟨n,hn⟩:∃n,n=(up.YP qf (l.take k)).length:=⟨_,rfl⟩
  have hnb:n≤100000:=by rw[hn];exact Nat.le_trans (up.serv_le _ _ _) hl
  rw[← hn]
  have HNN:=Lib.hid hn
  clear hn
  by_cases hlt:k<l.length
  ·obtain⟨bb,off,rfl⟩:=yI HV.out (Nat.lt_of_le_of_lt (Nat.zero_le _) hlt)
   have hki:(k:Int)<(l.length:Int):=by omega
   obtain⟨c0,c1,c2,c3,c4⟩:=yP (HV.out.below HR.out) hlt
   obtain⟨y,hy⟩:∃x,x=l[k]:=⟨_,rfl⟩
   rw[← hy]at c0 c1 c2 c3 c4
   obtain⟨wa,hwa⟩:∃W,W=w3.alloc (.cells (recC y).toArray 51):=⟨_,rfl⟩
   obtain⟨hBa,hsa,hya⟩:=qM w3 wa y hwa
   obtain⟨by_,hby⟩:∃b,b=w3.heap.size:=⟨_,rfl⟩
   rw[← hby]at hya
   have HWA:=Lib.hid hwa;have HY:=Lib.hid hy;have HLT:=Lib.hid hlt;have HBY:=Lib.hid hby;have HAL:=Lib.hid hBa
   have s0:=(hBa.cell (p:=⟨st,0,none⟩) (Nat.lt_of_lt_of_le LS.out HR.out.size)).trans ((HR.out.cell (p:=⟨st,0,none⟩) LS.out).trans HS0.out)
   have HSN:=Lib.hid (show(up.YP qf (l.take (k+1))).length=n+if(decide (y.typ=2) && qz y.owner qf)=true then 1 else 0 by rw[up.serv_next hlt,HNN.out,hy])
   obtain⟨y0,y1,y2,y3,y4⟩:=id hya
   clear hwa hy hBa hsa hya hby
   go_upto_region 5 with fail
   rw[← HWA.out,← HBY.out]
   clear c0 c1 c2 c3 c4 hki
   have k0:=qh y0;have k1:=qh y1;have k2:=qh s0
   clear y0 y1 y2 y3 y4 s0
   by_cases j2:y.typ=2
   ·have d2:(y.typ == 2)=true:=by rw[beq_iff_eq];exact j2
    obtain⟨eb,heb⟩:∃eb,eb=qz y.owner qf:=⟨_,rfl⟩
    have CE:Hid (∀p,Calls Tryz.prog 28 #[.string y.owner,.string qf] (gw wa p) fun e w''=>e= .returned (.bool eb)∧∃p',w''=gw wa p'):=Lib.hid fun p=>by rw[heb];exact qL (vJ y.owner qf _)
    have HEB:=Lib.hid heb;have HJ2:=Lib.hid j2
    clear heb j2
    refine qj (by kernel_rfl) (by kernel_rfl) ?_
    repeat (with_reducible refine wpQuiet_step (fun K hK=>?_);go_simp;(try simp only[undef]);first | (with_reducible refine hK _ ?_;clear hK K) | (apply Exists.intro;refine⟨fun _=>?_,hK _ ?_⟩;(first | (go_at_call 28;with_reducible exact CE.out _));clear hK K) | (with_reducible refine⟨fun _ h=>(by cases h),?_⟩;with_reducible refine hK _ ?_;clear hK K))
    refine wpQuiet_nil ?_
    (try simp only[show Value.tuple #[]=undef from rfl])
    intro U hU
    have hBU:Below wa.heap.size wa U:=by obtain⟨g,rfl⟩:=hU;exact qp _ g
    clear hU
    clear k0 k1 k2
    cases eb
    ·have HBn:=Lib.hid (HR.out.trans ((HAL.out.trans (hBU.mono HAL.out.size)).mono HR.out.size))
     have HNX:=Lib.hid (show(up.YP qf (l.take (k+1))).length=n by rw[HSN.out,← HEB.out];simp)
     clear hBU d2
     go_wp2_with fail
     go_roundw
     case rel=>
      first
       | exact⟨k+1,by omega,by go_num,(by rw[HNX.out] <;> first | rfl | go_num),HBn⟩
       | (repeat apply Exists.intro
          refine And.intro ?_ ?_
          rotate_left
          ·repeat (first | exact rfl | refine And.intro rfl ?_)
          exact⟨k+1,by omega,by go_num,(by rw[HNX.out] <;> first | rfl | go_num),HBn⟩)
     case measure=>simp[intOf];omega
    ·have HBn:=Lib.hid (HR.out.trans ((HAL.out.trans (hBU.mono HAL.out.size)).mono HR.out.size))
     have HNX:=Lib.hid (show(up.YP qf (l.take (k+1))).length=n+1 by rw[HSN.out,← HEB.out];simp[HJ2.out])
     clear hBU d2
     go_wp2_with fail
     go_roundw
     case rel=>
      first
       | exact⟨k+1,by omega,by go_num,(by rw[HNX.out] <;> first | rfl | go_num),HBn⟩
       | (repeat apply Exists.intro
          refine And.intro ?_ ?_
          rotate_left
          ·repeat (first | exact rfl | refine And.intro rfl ?_)
          exact⟨k+1,by omega,by go_num,(by rw[HNX.out] <;> first | rfl | go_num),HBn⟩)
     case measure=>simp[intOf];omega
   ·have d2:(y.typ == 2)=false:=by rw[beq_eq_false_iff_ne];exact j2
    have HJ2:=Lib.hid j2
    clear j2
    refine qj (by kernel_rfl) (by kernel_rfl) ?_
    repeat (with_reducible refine wpQuiet_step (fun K hK=>?_);go_simp;(try simp only[undef]);first | (with_reducible refine hK _ ?_;clear hK K))
    refine wpQuiet_nil ?_
    (try simp only[show Value.tuple #[]=undef from rfl])
    intro U hU
    have hBU:Below wa.heap.size wa U:=by obtain⟨g,rfl⟩:=hU;exact qp _ g
    clear hU
    clear k0 k1 k2
    have HBn:=Lib.hid (HR.out.trans ((HAL.out.trans (hBU.mono HAL.out.size)).mono HR.out.size))
    have HNX:=Lib.hid (show(up.YP qf (l.take (k+1))).length=n by rw[HSN.out];simp[HJ2.out])
    clear hBU d2
    go_wp2_with fail
    go_roundw
    case rel=>
     first
      | exact⟨k+1,by omega,by go_num,(by rw[HNX.out] <;> first | rfl | go_num),HBn⟩
      | (repeat apply Exists.intro
         refine And.intro ?_ ?_
         rotate_left
         ·repeat (first | exact rfl | refine And.intro rfl ?_)
         exact⟨k+1,by omega,by go_num,(by rw[HNX.out] <;> first | rfl | go_num),HBn⟩)
    case measure=>simp[intOf];omega
  ·obtain rfl:k=l.length:=by omega
   have HNA:=Lib.hid (show n=(up.YP qf l).length by rw[HNN.out,List.take_length])
   have HXX3:=Lib.hid (HXX.out.keep (HR.out.block bx LX.out));have LX3:=Lib.hid (Nat.lt_of_lt_of_le LX.out HR.out.size)
   have HST3:=Lib.hid (HST.out.below HR.out);have HB3s:=Lib.hid HR.out.size
   have HB3:=Lib.hid (HB1.out.trans (HR.out.mono HBL.out))
   obtain⟨x0,x1,x2,x3,x4⟩:=id HXX3.out
   simp only[Nat.zero_add]at x1 x2 x3 x4
   have s0:=(HR.out.cell (p:=⟨st,0,none⟩) LS.out).trans HS0.out
   clear hlt
   go_upto_region 8 with fail
   have k0:=qh x0;have k1:=qh x1;have k2:=qh s0
   clear x0 x1 x2 x3 x4 s0
   by_cases j6:x.typ=6
   ·have d6:(x.typ == 6)=true:=by rw[beq_iff_eq];exact j6
    have HJ6:=Lib.hid j6
    clear j6
    refine qj (by kernel_rfl) (by kernel_rfl) ?_
    repeat (with_reducible refine wpQuiet_step (fun K hK=>?_);go_simp;(try simp only[undef]);first | (with_reducible refine hK _ ?_;clear hK K))
    refine wpQuiet_nil ?_
    (try simp only[show Value.tuple #[]=undef from rfl])
    intro U hU
    have hBU:Below w3.heap.size w3 U:=by obtain⟨g,rfl⟩:=hU;exact qp _ g
    clear hU
    clear k0 k1 k2
    have zb:=Lib.hid (show up.Zz qf l x=l from if_pos (.inl HJ6.out))
    have HBE:=Lib.hid (HB3.out.trans (hBU.mono (Nat.le_trans HBL.out HB3s.out)))
    have HSTE:=Lib.hid (HST3.out.below hBU)
    clear hBU d6
    go_wp2_with fail
    go_end0
    exact⟨rfl,by rw[zb.out];exact HSTE.out,HBE.out⟩
   ·have d6:(x.typ == 6)=false:=by rw[beq_eq_false_iff_ne];exact j6
    have HJ6:=Lib.hid j6
    clear j6
    by_cases j2:x.typ=2
    ·have d2:(x.typ == 2)=true:=by rw[beq_iff_eq];exact j2
     have HJ2:=Lib.hid j2
     obtain⟨eb,heb⟩:∃eb,eb=qz x.owner qf:=⟨_,rfl⟩
     have CE:Hid (∀p,Calls Tryz.prog 28 #[.string x.owner,.string qf] (gw w3 p) fun e w''=>e= .returned (.bool eb)∧∃p',w''=gw w3 p'):=Lib.hid fun p=>by rw[heb];exact qL (vJ x.owner qf _)
     have HEB:=Lib.hid heb
     clear heb j2
     cases eb
     ·refine qj (by kernel_rfl) (by kernel_rfl) ?_
      repeat (with_reducible refine wpQuiet_step (fun K hK=>?_);go_simp;(try simp only[undef]);first | (with_reducible refine hK _ ?_;clear hK K) | (apply Exists.intro;refine⟨fun _=>?_,hK _ ?_⟩;(first | (go_at_call 28;with_reducible exact CE.out _));clear hK K) | (with_reducible refine⟨fun _ h=>(by cases h),?_⟩;with_reducible refine hK _ ?_;clear hK K))
      refine wpQuiet_nil ?_
      (try simp only[show Value.tuple #[]=undef from rfl])
      intro U hU
      have hBU:Below w3.heap.size w3 U:=by obtain⟨g,rfl⟩:=hU;exact qp _ g
      clear hU
      clear k0 k1 k2
      have zb:=Lib.hid (show up.Zz qf l x=l.filter fun y=>!zn.qW x y from if_neg (fun hh=>hh.elim HJ6.out fun h=>by rw[← HEB.out]at h;cases h.2.1))
      have HBU:=Lib.hid (HB3.out.trans (hBU.mono (Nat.le_trans HBL.out HB3s.out)))
      have HSTU:=Lib.hid (HST3.out.below hBU)
      have HXU:=Lib.hid (HXX3.out.keep (hBU.block bx LX3.out))
      have HSU:=Lib.hid (Nat.le_trans HB3s.out hBU.size)
      clear hBU d6 d2
      obtain⟨x0,x1,x2,x3,x4⟩:=id HXU.out
      simp only[Nat.zero_add]at x1 x2 x3 x4
      obtain⟨⟨f0,f1,f2⟩,hf⟩:∃f,f=zn.zf x:=⟨_,rfl⟩
      have HF:=Lib.hid hf
      have CK:=Lib.hid (show Calls Tryz.prog 31 #[zB x] U fun e w'=>e= .returned (.agg #[.string f0,.int .i64 f1,.string f2])∧Below U.heap.size U w' by have h:=xN x U;rw[← hf]at h;exact h)
      clear hf
      go_upto_region 9 with fail
      go_wp2_with fail
      refine CK.out.mono ?_
      rintro e w4 ⟨rfl,hB4⟩
      obtain⟨w5,hw5⟩:∃X,X=w4.alloc (.cells #[.string f0,.int .i64 f1,.string f2] 72):=⟨_,rfl⟩
      obtain⟨b7,hb7⟩:∃b,b=w4.heap.size:=⟨_,rfl⟩
      have hB5:Below w4.heap.size w4 w5:=by rw[hw5];exact(Below.refl _ w4).alloc (Nat.le_refl _) _
      have hs5:w5.heap.size=w4.heap.size+1:=by rw[hw5,World.size_alloc]
      have hh5:w5.heap[b7]? =some (.cells #[.string f0,.int .i64 f1,.string f2] 72 (0,0)):=by rw[hw5];exact qo hb7
      have Q9:Zu w5 b7 (f0,f1,f2):=by refine⟨?_,?_,?_,by omega⟩ <;> (rw[qg hh5];rfl)
      have h35:=hB4.trans (hB5.mono hB4.size)
      have HB5:=Lib.hid (HBU.out.trans (h35.mono (Nat.le_trans HBL.out HSU.out)))
      have Ji:=Lib.hid (HSTU.out.below h35)
      have HS5:=Lib.hid (Nat.le_trans HSU.out h35.size)
      have HW5:=Lib.hid hw5;have Ur:=Lib.hid Q9;have HB7:=Lib.hid hb7
      clear hB4 hw5 hB5 hs5 hh5 Q9 h35 hb7 x0 x1 x2 x3 x4
      go_upto_region 10 with fail
      rw[← HW5.out,← HB7.out]
      go_wp2_with fail
      refine(xD 94 #[.pointer (some ⟨b7,0,none⟩)] QP (uP (f0,f1,f2)) base st qf l (by omega) w5 Ji.out (fun r _ X hX=>UH r b7 (f0,f1,f2) X (Ur.out.below hX))).mono ?_
      rintro e w6 ⟨rfl,⟨v6,Qi,jm⟩,hg6⟩
      have hflt:(l.filter fun y=>!uP (f0,f1,f2) y)=l.filter fun y=>!zn.qW x y:=List.filter_congr fun y hy=>by
       rw[HF.out,up.QI HX.out (HN.out y hy)]
      rw[hflt]at jm
      have HST6:=Lib.hid (show zR w6 base st qf (l.filter fun y=>!zn.qW x y) from⟨v6,Qi,Ji.out.kI,yj jm (Nat.le_trans HBL.out HS5.out)⟩)
      have HB6:=Lib.hid (HB5.out.trans (Zb hg6 (Nat.le_trans HBL.out HS5.out) Ji.out.kI))
      clear Qi jm hg6 hflt
      go_wp2_with fail
      go_end0
      exact⟨rfl,by rw[zb.out];exact HST6.out,HB6.out⟩
     ·by_cases j1:n=1
      ·have d1:((n:Int) == 1)=true:=by rw[beq_iff_eq];omega
       have HJ1:=Lib.hid j1
       clear j1
       refine qj (by kernel_rfl) (by kernel_rfl) ?_
       repeat (with_reducible refine wpQuiet_step (fun K hK=>?_);go_simp;(try simp only[undef]);first | (with_reducible refine hK _ ?_;clear hK K) | (apply Exists.intro;refine⟨fun _=>?_,hK _ ?_⟩;(first | (go_at_call 28;with_reducible exact CE.out _));clear hK K) | (with_reducible refine⟨fun _ h=>(by cases h),?_⟩;with_reducible refine hK _ ?_;clear hK K))
       refine wpQuiet_nil ?_
       (try simp only[show Value.tuple #[]=undef from rfl])
       intro U hU
       have hBU:Below w3.heap.size w3 U:=by obtain⟨g,rfl⟩:=hU;exact qp _ g
       clear hU
       clear k0 k1 k2
       have zb:=Lib.hid (show up.Zz qf l x=l from if_pos (.inr ⟨HJ2.out,HEB.out.symm,HNA.out.symm.trans HJ1.out⟩))
       have HBE:=Lib.hid (HB3.out.trans (hBU.mono (Nat.le_trans HBL.out HB3s.out)))
       have HSTE:=Lib.hid (HST3.out.below hBU)
       clear hBU d6 d2 d1
       go_wp2_with fail
       go_end0
       exact⟨rfl,by rw[zb.out];exact HSTE.out,HBE.out⟩
      ·have d1:((n:Int) == 1)=false:=by rw[beq_eq_false_iff_ne];omega
       have HJ1:=Lib.hid j1
       clear j1
       refine qj (by kernel_rfl) (by kernel_rfl) ?_
       repeat (with_reducible refine wpQuiet_step (fun K hK=>?_);go_simp;(try simp only[undef]);first | (with_reducible refine hK _ ?_;clear hK K) | (apply Exists.intro;refine⟨fun _=>?_,hK _ ?_⟩;(first | (go_at_call 28;with_reducible exact CE.out _));clear hK K) | (with_reducible refine⟨fun _ h=>(by cases h),?_⟩;with_reducible refine hK _ ?_;clear hK K))
       refine wpQuiet_nil ?_
       (try simp only[show Value.tuple #[]=undef from rfl])
       intro U hU
       have hBU:Below w3.heap.size w3 U:=by obtain⟨g,rfl⟩:=hU;exact qp _ g
       clear hU
       clear k0 k1 k2
       have zb:=Lib.hid (show up.Zz qf l x=l.filter fun y=>!zn.qW x y from if_neg (fun hh=>hh.elim HJ6.out fun h=>HJ1.out (HNA.out.trans h.2.2)))
       have HBU:=Lib.hid (HB3.out.trans (hBU.mono (Nat.le_trans HBL.out HB3s.out)))
       have HSTU:=Lib.hid (HST3.out.below hBU)
       have HXU:=Lib.hid (HXX3.out.keep (hBU.block bx LX3.out))
       have HSU:=Lib.hid (Nat.le_trans HB3s.out hBU.size)
       clear hBU d6 d2 d1
       obtain⟨x0,x1,x2,x3,x4⟩:=id HXU.out
       simp only[Nat.zero_add]at x1 x2 x3 x4
       obtain⟨⟨f0,f1,f2⟩,hf⟩:∃f,f=zn.zf x:=⟨_,rfl⟩
       have HF:=Lib.hid hf
       have CK:=Lib.hid (show Calls Tryz.prog 31 #[zB x] U fun e w'=>e= .returned (.agg #[.string f0,.int .i64 f1,.string f2])∧Below U.heap.size U w' by have h:=xN x U;rw[← hf]at h;exact h)
       clear hf
       go_upto_region 9 with fail
       go_wp2_with fail
       refine CK.out.mono ?_
       rintro e w4 ⟨rfl,hB4⟩
       obtain⟨w5,hw5⟩:∃X,X=w4.alloc (.cells #[.string f0,.int .i64 f1,.string f2] 72):=⟨_,rfl⟩
       obtain⟨b7,hb7⟩:∃b,b=w4.heap.size:=⟨_,rfl⟩
       have hB5:Below w4.heap.size w4 w5:=by rw[hw5];exact(Below.refl _ w4).alloc (Nat.le_refl _) _
       have hs5:w5.heap.size=w4.heap.size+1:=by rw[hw5,World.size_alloc]
       have hh5:w5.heap[b7]? =some (.cells #[.string f0,.int .i64 f1,.string f2] 72 (0,0)):=by rw[hw5];exact qo hb7
       have Q9:Zu w5 b7 (f0,f1,f2):=by refine⟨?_,?_,?_,by omega⟩ <;> (rw[qg hh5];rfl)
       have h35:=hB4.trans (hB5.mono hB4.size)
       have HB5:=Lib.hid (HBU.out.trans (h35.mono (Nat.le_trans HBL.out HSU.out)))
       have Ji:=Lib.hid (HSTU.out.below h35)
       have HS5:=Lib.hid (Nat.le_trans HSU.out h35.size)
       have HW5:=Lib.hid hw5;have Ur:=Lib.hid Q9;have HB7:=Lib.hid hb7
       clear hB4 hw5 hB5 hs5 hh5 Q9 h35 hb7 x0 x1 x2 x3 x4
       go_upto_region 10 with fail
       rw[← HW5.out,← HB7.out]
       go_wp2_with fail
       refine(xD 94 #[.pointer (some ⟨b7,0,none⟩)] QP (uP (f0,f1,f2)) base st qf l (by omega) w5 Ji.out (fun r _ X hX=>UH r b7 (f0,f1,f2) X (Ur.out.below hX))).mono ?_
       rintro e w6 ⟨rfl,⟨v6,Qi,jm⟩,hg6⟩
       have hflt:(l.filter fun y=>!uP (f0,f1,f2) y)=l.filter fun y=>!zn.qW x y:=List.filter_congr fun y hy=>by
        rw[HF.out,up.QI HX.out (HN.out y hy)]
       rw[hflt]at jm
       have HST6:=Lib.hid (show zR w6 base st qf (l.filter fun y=>!zn.qW x y) from⟨v6,Qi,Ji.out.kI,yj jm (Nat.le_trans HBL.out HS5.out)⟩)
       have HB6:=Lib.hid (HB5.out.trans (Zb hg6 (Nat.le_trans HBL.out HS5.out) Ji.out.kI))
       clear Qi jm hg6 hflt
       go_wp2_with fail
       go_end0
       exact⟨rfl,by rw[zb.out];exact HST6.out,HB6.out⟩
    ·have d2:(x.typ == 2)=false:=by rw[beq_eq_false_iff_ne];exact j2
     have HJ2:=Lib.hid j2
     clear j2
     refine qj (by kernel_rfl) (by kernel_rfl) ?_
     repeat (with_reducible refine wpQuiet_step (fun K hK=>?_);go_simp;(try simp only[undef]);first | (with_reducible refine hK _ ?_;clear hK K))
     refine wpQuiet_nil ?_
     (try simp only[show Value.tuple #[]=undef from rfl])
     intro U hU
     have hBU:Below w3.heap.size w3 U:=by obtain⟨g,rfl⟩:=hU;exact qp _ g
     clear hU
     clear k0 k1 k2
     have zb:=Lib.hid (show up.Zz qf l x=l.filter fun y=>!zn.qW x y from if_neg (fun hh=>hh.elim HJ6.out fun h=>HJ2.out h.1))
     have HBU:=Lib.hid (HB3.out.trans (hBU.mono (Nat.le_trans HBL.out HB3s.out)))
     have HSTU:=Lib.hid (HST3.out.below hBU)
     have HXU:=Lib.hid (HXX3.out.keep (hBU.block bx LX3.out))
     have HSU:=Lib.hid (Nat.le_trans HB3s.out hBU.size)
     clear hBU d6 d2
     obtain⟨x0,x1,x2,x3,x4⟩:=id HXU.out
     simp only[Nat.zero_add]at x1 x2 x3 x4
     obtain⟨⟨f0,f1,f2⟩,hf⟩:∃f,f=zn.zf x:=⟨_,rfl⟩
     have HF:=Lib.hid hf
     have CK:=Lib.hid (show Calls Tryz.prog 31 #[zB x] U fun e w'=>e= .returned (.agg #[.string f0,.int .i64 f1,.string f2])∧Below U.heap.size U w' by have h:=xN x U;rw[← hf]at h;exact h)
     clear hf
     go_upto_region 9 with fail
     go_wp2_with fail
     refine CK.out.mono ?_
     rintro e w4 ⟨rfl,hB4⟩
     obtain⟨w5,hw5⟩:∃X,X=w4.alloc (.cells #[.string f0,.int .i64 f1,.string f2] 72):=⟨_,rfl⟩
     obtain⟨b7,hb7⟩:∃b,b=w4.heap.size:=⟨_,rfl⟩
     have hB5:Below w4.heap.size w4 w5:=by rw[hw5];exact(Below.refl _ w4).alloc (Nat.le_refl _) _
     have hs5:w5.heap.size=w4.heap.size+1:=by rw[hw5,World.size_alloc]
     have hh5:w5.heap[b7]? =some (.cells #[.string f0,.int .i64 f1,.string f2] 72 (0,0)):=by rw[hw5];exact qo hb7
     have Q9:Zu w5 b7 (f0,f1,f2):=by refine⟨?_,?_,?_,by omega⟩ <;> (rw[qg hh5];rfl)
     have h35:=hB4.trans (hB5.mono hB4.size)
     have HB5:=Lib.hid (HBU.out.trans (h35.mono (Nat.le_trans HBL.out HSU.out)))
     have Ji:=Lib.hid (HSTU.out.below h35)
     have HS5:=Lib.hid (Nat.le_trans HSU.out h35.size)
     have HW5:=Lib.hid hw5;have Ur:=Lib.hid Q9;have HB7:=Lib.hid hb7
     clear hB4 hw5 hB5 hs5 hh5 Q9 h35 hb7 x0 x1 x2 x3 x4
     go_upto_region 10 with fail
     rw[← HW5.out,← HB7.out]
     go_wp2_with fail
     refine(xD 94 #[.pointer (some ⟨b7,0,none⟩)] QP (uP (f0,f1,f2)) base st qf l (by omega) w5 Ji.out (fun r _ X hX=>UH r b7 (f0,f1,f2) X (Ur.out.below hX))).mono ?_
     rintro e w6 ⟨rfl,⟨v6,Qi,jm⟩,hg6⟩
     have hflt:(l.filter fun y=>!uP (f0,f1,f2) y)=l.filter fun y=>!zn.qW x y:=List.filter_congr fun y hy=>by
      rw[HF.out,up.QI HX.out (HN.out y hy)]
     rw[hflt]at jm
     have HST6:=Lib.hid (show zR w6 base st qf (l.filter fun y=>!zn.qW x y) from⟨v6,Qi,Ji.out.kI,yj jm (Nat.le_trans HBL.out HS5.out)⟩)
     have HB6:=Lib.hid (HB5.out.trans (Zb hg6 (Nat.le_trans HBL.out HS5.out) Ji.out.kI))
     clear Qi jm hg6 hflt
     go_wp2_with fail
     go_end0
     exact⟨rfl,by rw[zb.out];exact HST6.out,HB6.out⟩
theorem chgOk_take {x:Rec}(h1:x.cls≠1)(h2:x.cls≠255)(hx:ql x.owner=true):VJ x:=by
 intro base st qf l w hl hin hb hs
 have e:up.zO qf l x=up.Zz qf l x:=by unfold up.zO;rw[if_neg h1,if_neg h2]
 rw[if_neg h1,if_neg h2,e]
 exact utake_any x hx base st qf l hl (fun y hy=>(hin y hy).1) w hb hs
end Go.Proofs.YtdjjemajfphjaaaGreat
