import Derived.Test.YtdjjemajfphjaaaGreatQRWiu
import Derived.Test.YtdjjemajfphjaaaGreatQSerial
import Derived.Test.YtdjjemajfphjaaaGreatQUpdW
set_option maxRecDepth 100000
set_option maxHeartbeats 8000000
namespace Go.Proofs.YtdjjemajfphjaaaGreat
open Go.RowKit Go.Shelf nm od
namespace up
theorem perm_counts {a b:List Rec}(hl:a.length=b.length)(h:∀j (hj:j<a.length),a.count a[j]=b.count a[j]):a.Perm b:=by
 have h':∀x∈a,a.count x=b.count x:=fun x hx=>by
  obtain⟨j,hj,rfl⟩:=List.getElem_of_mem hx
  exact h j hj
 have hp:(b.filter fun y=>decide (y∈a)).Perm a:=by
  rw[List.perm_iff_count]
  intro y
  by_cases hy:y∈a
  ·rw[List.count_filter (by simpa using hy),h' y hy]
  ·rw[List.count_eq_zero_of_not_mem hy,List.count_eq_zero_of_not_mem]
   intro hm
   exact hy (of_decide_eq_true (List.mem_filter.1 hm).2)
 have he:(b.filter fun y=>decide (y∈a))=b:=by
  rw[List.filter_eq_self]
  have hlen:(b.filter fun y=>decide (y∈a)).length=b.length:=by rw[hp.length_eq,hl]
  exact List.length_filter_eq_length_iff.1 hlen
 rw[he]at hp
 exact hp.symm
theorem Yq {l:List Rec}{k:Nat}{x:Rec}(hk:k<l.length):(l.take (k+1)).count x=(l.take k).count x+if x=l[k] then 1 else 0:=by
 rw[List.take_succ_eq_append_getElem hk,List.count_append,List.count_singleton]
 congr 1
 by_cases h:x=l[k]
 ·rw[if_pos h,if_pos (by rw[beq_iff_eq];exact h.symm)]
 ·rw[if_neg h,if_neg (by rw[beq_iff_eq];exact fun e=>h e.symm)]
theorem count_take (l:List Rec)(k:Nat)(x:Rec):(l.take k).count x≤l.length:=Nat.le_trans List.count_le_length (by rw[List.length_take];omega)
end up
attribute [local go_sem] rec_if
theorem rsame_any (a b:List Rec)(ha:a.length≤1000000)(hb:b.length≤1000000)(v u:Value)(w:World)(hv:qy w v a)(hu:qy w u b):
 Calls Tryz.prog 51 #[v,u] w fun e w'=>e= .returned (.bool (decide (a.Perm b)))∧Below w.heap.size w w':=by
 have HV:=Lib.hid hv;have HU:=Lib.hid hu
 obtain⟨va,vc,rfl,-⟩:=id hv
 obtain⟨ua,uc,rfl,-⟩:=id hu
 obtain⟨pb,hpb⟩:∃pb,pb=decide (a.Perm b):=⟨_,rfl⟩
 rw[← hpb]
 have HPB:=Lib.hid hpb
 clear hv hu hpb
 by_cases hl:a.length=b.length
 ·have d0:((a.length:Int) != (b.length:Int))=false:=by rw[bne_eq_false_iff_eq];omega
  have HL:=Lib.hid hl
  clear hl
  go_enter Tryz.func51,Tryz.ntmps51
  go_wp2_with fail
  clear d0
  go_loopw [19] (fun kv wr=>∃k:Nat,k≤a.length∧kv= .int .i64 (k:Int)∧Hid ((∀j (hj:j<a.length),j<k→a.count a[j]=b.count a[j])∧Below w.heap.size w wr)) (fun kv _=>a.length-(intOf kv).toNat)
  case atStart=>exact⟨0,Nat.zero_le _,rfl,Lib.hid ⟨fun j hj h=>absurd h (Nat.not_lt_zero _),Below.refl _ _⟩⟩
  case round=>
   obtain⟨k,hk,rfl,HR⟩:=hrel
   obtain⟨w3,hw3⟩:∃X:World,X=wr:=⟨_,rfl⟩
   subst hw3
   by_cases hlt:k<a.length
   ·obtain⟨bb,off,rfl⟩:=yI HV.out (Nat.lt_of_le_of_lt (Nat.zero_le _) hlt)
    have hki:(k:Int)<(a.length:Int):=by omega
    obtain⟨c0,c1,c2,c3,c4⟩:=yP (HV.out.below HR.out.2) hlt
    obtain⟨x,hx⟩:∃x,x=a[k]:=⟨_,rfl⟩
    rw[← hx]at c0 c1 c2 c3 c4
    obtain⟨wa,hwa⟩:∃W,W=w3.alloc (.cells (recC x).toArray 51):=⟨_,rfl⟩
    obtain⟨hBa,hsa,hxa⟩:=qM w3 wa x hwa
    obtain⟨bx,hbx⟩:∃b,b=w3.heap.size:=⟨_,rfl⟩
    rw[← hbx]at hxa
    have zU:bx<wa.heap.size:=by omega
    have HWA:=Lib.hid hwa;have HX:=Lib.hid hx;have HLT:=Lib.hid hlt;have HXA:=Lib.hid hxa;have HBX:=Lib.hid hbx;have yH:=Lib.hid zU
    have HBA:=Lib.hid (Below.trans HR.out.2 (hBa.mono (Below.size HR.out.2)))
    clear hwa hx hBa hsa hxa hbx zU
    go_upto_region 6 with fail
    rw[← HWA.out,← HBX.out]
    clear c0 c1 c2 c3 c4 hki
    go_wp2_with fail
    go_loopw [25,7] (fun kv nv wr=>∃k:Nat,k≤a.length∧kv= .int .i64 (k:Int)∧nv= .int .i64 (((a.take k).count x:Nat):Int)∧Hid (Below wa.heap.size wa wr)) (fun kv _ _=>a.length-(intOf kv).toNat)
    case atStart=>exact⟨0,Nat.zero_le _,rfl,rfl,Lib.hid (Below.refl _ _)⟩
    case round=>
     obtain⟨kq,hkq,rfl,rfl,HR2⟩:=hrel
     obtain⟨w4,hw4⟩:∃X:World,X=wr:=⟨_,rfl⟩
     subst hw4
     obtain⟨n,hn⟩:∃n,n=(a.take kq).count x:=⟨_,rfl⟩
     have hnb:n≤1000000:=by rw[hn];exact Nat.le_trans (up.count_take _ _ _) ha
     rw[← hn]
     have HN0:=Lib.hid hn
     clear hn
     by_cases ui:kq<a.length
     ·have HV4:=Lib.hid (HV.out.below HBA.out)
      have X9:(kq:Int)<(a.length:Int):=by omega
      obtain⟨c0,c1,c2,c3,c4⟩:=yP (HV4.out.below HR2.out) ui
      obtain⟨xq,hx⟩:∃x,x=a[kq]:=⟨_,rfl⟩
      rw[← hx]at c0 c1 c2 c3 c4
      obtain⟨waq,hwa⟩:∃W,W=w4.alloc (.cells (recC xq).toArray 51):=⟨_,rfl⟩
      obtain⟨hBa,hsa,hxa⟩:=qM w4 waq xq hwa
      obtain⟨bxq,hbx⟩:∃b,b=w4.heap.size:=⟨_,rfl⟩
      rw[← hbx]at hxa
      have zU:bxq<waq.heap.size:=by omega
      have HWAq:=Lib.hid hwa;have HXq:=Lib.hid hx;have HLTq:=Lib.hid ui;have HXAq:=Lib.hid hxa;have HBXq:=Lib.hid hbx;have HBXLq:=Lib.hid zU
      have HBAq:=Lib.hid (Below.trans HR2.out (hBa.mono (Below.size HR2.out)))
      clear hwa hx hBa hsa hxa hbx zU
      go_upto_region 10 with fail
      rw[← HWAq.out,← HBXq.out]
      clear c0 c1 c2 c3 c4 X9
      have HB3:=Lib.hid HBAq.out
      obtain⟨x0,x1,x2,x3,x4⟩:=HXA.out.keep (HBAq.out.block bx yH.out)
      obtain⟨y0,y1,y2,y3,y4⟩:=id HXAq.out
      by_cases he:x=xq
      ·have HN:=Lib.hid (show(a.take (kq+1)).count x=n+1 by rw[up.Yq ui,HN0.out,if_pos (he.trans HXq.out)])
       subst he
       go_wp2_with fail
       go_roundw
       case rel=>
        first
         | exact⟨kq+1,by omega,by go_num,by rw[HN.out];go_num,HB3⟩
         | (repeat apply Exists.intro
            refine And.intro ?_ ?_
            rotate_left
            ·repeat (first | exact rfl | refine And.intro rfl ?_)
            exact⟨kq+1,by omega,by go_num,by rw[HN.out];go_num,HB3⟩)
       case measure=>simp[intOf];omega
      ·have HN:=Lib.hid (show(a.take (kq+1)).count x=n by rw[up.Yq ui,HN0.out,if_neg (fun e=>he (e.trans HXq.out.symm)),Nat.add_zero])
       go_wp2_with fail
       go_roundw
       case rel=>
        first
         | exact⟨kq+1,by omega,by go_num,by rw[HN.out],HB3⟩
         | (repeat apply Exists.intro
            refine And.intro ?_ ?_
            rotate_left
            ·repeat (first | exact rfl | refine And.intro rfl ?_)
            exact⟨kq+1,by omega,by go_num,by rw[HN.out],HB3⟩)
       case measure=>simp[intOf];omega
     ·obtain rfl:kq=a.length:=by omega
      have HNA:=Lib.hid (show n=a.count x by rw[HN0.out,List.take_length])
      have HBW:=Lib.hid HR2.out
      have QV:=Lib.hid (HBA.out.trans (HR2.out.mono HBA.out.size))
      clear ui HN0
      go_wp2_with fail
      go_loopw [37,7] (fun kv nv wr=>∃k:Nat,k≤b.length∧kv= .int .i64 (k:Int)∧nv= .int .i64 ((n:Int)-(((b.take k).count x:Nat):Int))∧Hid (Below wa.heap.size wa wr)) (fun kv _ _=>b.length-(intOf kv).toNat)
      case atStart=>exact⟨0,Nat.zero_le _,rfl,by simp,HBW⟩
      case round=>
       obtain⟨kq,hkq,rfl,rfl,HR3⟩:=hrel
       obtain⟨w5,hw5⟩:∃X:World,X=wr:=⟨_,rfl⟩
       subst hw5
       obtain⟨m,hm⟩:∃m,m=(b.take kq).count x:=⟨_,rfl⟩
       have hmb:m≤1000000:=by rw[hm];exact Nat.le_trans (up.count_take _ _ _) hb
       rw[← hm]
       have HM0:=Lib.hid hm
       clear hm
       by_cases ui:kq<b.length
       ·obtain⟨bb2,off2,rfl⟩:=yI HU.out (Nat.lt_of_le_of_lt (Nat.zero_le _) ui)
        have HU4:=Lib.hid (HU.out.below HBA.out)
        have X9:(kq:Int)<(b.length:Int):=by omega
        obtain⟨c0,c1,c2,c3,c4⟩:=yP (HU4.out.below HR3.out) ui
        obtain⟨xq,hx⟩:∃x,x=b[kq]:=⟨_,rfl⟩
        rw[← hx]at c0 c1 c2 c3 c4
        obtain⟨waq,hwa⟩:∃W,W=w5.alloc (.cells (recC xq).toArray 51):=⟨_,rfl⟩
        obtain⟨hBa,hsa,hxa⟩:=qM w5 waq xq hwa
        obtain⟨bxq,hbx⟩:∃b,b=w5.heap.size:=⟨_,rfl⟩
        rw[← hbx]at hxa
        have zU:bxq<waq.heap.size:=by omega
        have HWAq:=Lib.hid hwa;have HXq:=Lib.hid hx;have HLTq:=Lib.hid ui;have HXAq:=Lib.hid hxa;have HBXq:=Lib.hid hbx;have HBXLq:=Lib.hid zU
        have HBAq:=Lib.hid (Below.trans HR3.out (hBa.mono (Below.size HR3.out)))
        clear hwa hx hBa hsa hxa hbx zU
        go_upto_region 16 with fail
        rw[← HWAq.out,← HBXq.out]
        clear c0 c1 c2 c3 c4 X9
        have HB3:=Lib.hid HBAq.out
        obtain⟨x0,x1,x2,x3,x4⟩:=HXA.out.keep (HBAq.out.block bx yH.out)
        obtain⟨y0,y1,y2,y3,y4⟩:=id HXAq.out
        by_cases he:x=xq
        ·have HN:=Lib.hid (show(b.take (kq+1)).count x=m+1 by rw[up.Yq ui,HM0.out,if_pos (he.trans HXq.out)])
         subst he
         go_wp2_with fail
         go_roundw
         case rel=>
          first
           | exact⟨kq+1,by omega,by go_num,by rw[HN.out];go_num,HB3⟩
           | (repeat apply Exists.intro
              refine And.intro ?_ ?_
              rotate_left
              ·repeat (first | exact rfl | refine And.intro rfl ?_)
              exact⟨kq+1,by omega,by go_num,by rw[HN.out];go_num,HB3⟩)
         case measure=>simp[intOf];omega
        ·have HN:=Lib.hid (show(b.take (kq+1)).count x=m by rw[up.Yq ui,HM0.out,if_neg (fun e=>he (e.trans HXq.out.symm)),Nat.add_zero])
         go_wp2_with fail
         go_roundw
         case rel=>
          first
           | exact⟨kq+1,by omega,by go_num,by rw[HN.out],HB3⟩
           | (repeat apply Exists.intro
              refine And.intro ?_ ?_
              rotate_left
              ·repeat (first | exact rfl | refine And.intro rfl ?_)
              exact⟨kq+1,by omega,by go_num,by rw[HN.out],HB3⟩)
         case measure=>simp[intOf];omega
       ·obtain rfl:kq=b.length:=by omega
        have HMA:=Lib.hid (show m=b.count x by rw[HM0.out,List.take_length])
        have HBE:=Lib.hid (HBA.out.trans (HR3.out.mono HBA.out.size))
        clear ui HM0
        by_cases hnm:n=m
        ·have d1:((n:Int)-(m:Int) != 0)=false:=by rw[bne_eq_false_iff_eq];omega
         have HE:=Lib.hid (show a.count x=b.count x by rw[← HNA.out,← HMA.out,hnm])
         clear hnm
         go_wp2_with fail
         go_roundw
         case rel=>
          have hrel:∀j (hj:j<a.length),j<k+1→a.count a[j]=b.count a[j]:=fun j hj h=>by
           rcases Nat.lt_or_ge j k with h2 | h2
           ·exact HR.out.1 j hj h2
           ·obtain rfl:j=k:=by omega
            rw[← HX.out];exact HE.out
          first
           | exact⟨k+1,by omega,by go_num,Lib.hid ⟨hrel,HBE.out⟩⟩
           | (repeat apply Exists.intro
              refine And.intro ?_ ?_
              rotate_left
              ·repeat (first | exact rfl | refine And.intro rfl ?_)
              exact⟨k+1,by omega,by go_num,Lib.hid ⟨hrel,HBE.out⟩⟩)
         case measure=>simp[intOf];omega
        ·have d1:((n:Int)-(m:Int) != 0)=true:=by rw[bne_iff_ne];omega
         have HP:=Lib.hid (show pb=false by
          rw[HPB.out]
          refine decide_eq_false fun hp=>hnm ?_
          rw[HNA.out,HMA.out]
          exact hp.count_eq x)
         clear hnm
         go_wp2_with fail
         go_ret
         exact⟨qA HP.out.symm,HBE.out⟩
   ·obtain rfl:k=a.length:=by omega
    have HP:=Lib.hid (show pb=true by rw[HPB.out];exact decide_eq_true (up.perm_counts HL.out fun j hj=>HR.out.1 j hj hj))
    clear hlt
    go_wp2_with fail
    go_ret
    exact⟨qA HP.out.symm,HR.out.2⟩
 ·have d0:((a.length:Int) != (b.length:Int))=true:=by rw[bne_iff_ne];omega
  have HP:=Lib.hid (show pb=false by rw[HPB.out];exact decide_eq_false fun hp=>hl hp.length_eq)
  clear hl
  go_enter Tryz.func51,Tryz.ntmps51
  go_wp2_with fail
  go_ret
  exact⟨qA HP.out.symm,Below.refl _ _⟩
end Go.Proofs.YtdjjemajfphjaaaGreat
namespace Go.Proofs.YtdjjemajfphjaaaGreat
open Go.RowKit Go.Shelf nm od
def RList (L:List Rec)(w:World)(e:Ending)(w':World):Prop:=∃v,e= .returned v∧Below w.heap.size w w'∧qy w' v L
namespace up
def YG (qf:ByteArray)(x y:Rec):Rec:=if y.typ=6∧qz x.owner qf=true∧Qh (Qg x.data) (Qg y.data)=true then x else y
def Kl (l:List Rec)(x:Rec):Bool:=l.any fun y=>qz y.owner x.owner && ((decide (x.typ=5) && decide (y.typ≠5) && !yl y.typ) || (decide (x.typ≠5) && decide (y.typ=5) && !yl x.typ))
def Ui (x y:Rec):Rec:=if y.typ=x.typ∧x.typ≠46∧qz x.owner y.owner=true then { y with ttl:=x.ttl} else y
theorem add_cases (qf:ByteArray)(l:List Rec)(x:Rec):Z4 qf l x=if x.typ=6 then l.map (YG qf x) else if Kl l x=true then l else((l.filter fun y=>!JN x y).map (Ui x)) ++ [x]:=rfl
theorem uH {y:Rec}(h:jO y):y.owner.size≤1099511627776:=by have:=qP h.1;omega
end up
theorem radded_block (qf:ByteArray)(l:List Rec)(hl:l.length≤1000000)(x:Rec)(hx:up.jO x)(hin:∀y∈l,up.jO y)(h6:x.typ≠6)(v:Value)(w:World)(hrv:qy w v l):
 Calls Tryz.prog 95 #[.string qf,v,zB x] w fun e w'=>RList (up.Z4 qf l x) w e w':=by
 have hgf:=fun args w=>(show(callFunc 143 args).run Tryz.prog w= .ok (.enter 143 args) w by kernel_rfl)
 have hmf:∀(fn:Fn) (first cap:Array Value) (w:World),(Instr.makeFunc fn first cap).run Tryz.prog w= .ok (.func fn first cap) w:=fun _ _ _ _=>rfl
 obtain⟨kX,uz,uy,jd,jc⟩:=info_parts jM
 have kZ:=Lib.hid uz;have kY:=Lib.hid uy;have yK:=Lib.hid jd;have yJ:=Lib.hid jc
 clear uz uy jd jc
 obtain⟨w1,hw1⟩:∃W,W=w.alloc (.cells (recC x).toArray 51):=⟨_,rfl⟩
 obtain⟨hB1,hs1,hxa⟩:=qM w w1 x hw1
 obtain⟨bx,hbx⟩:∃b,b=w.heap.size:=⟨_,rfl⟩
 rw[← hbx]at hxa
 have HW1:=Lib.hid hw1;have HBX:=Lib.hid hbx;have HXX:=Lib.hid hxa;have LX:=Lib.hid (show bx<w1.heap.size by omega);have HB1:=Lib.hid hB1
 have HV:=Lib.hid (hrv.below hB1)
 have HX:=Lib.hid hx;have HIN:=Lib.hid hin;have HGF:=Lib.hid hgf
 have SX:=Lib.hid (up.uH hx)
 obtain⟨va,vc,rfl,-⟩:=id hrv
 have hadd:=up.add_cases qf l x
 rw[if_neg h6]at hadd
 have d6:(x.typ == 6)=false:=by rw[beq_eq_false_iff_ne];exact h6
 have HADD:=Lib.hid hadd
 obtain⟨x0,x1,x2,x3,x4⟩:=id hxa
 simp only[Nat.zero_add]at x1 x2 x3 x4
 clear hw1 hB1 hs1 hbx hxa hrv hx hin hgf hadd h6
 go_enter Tryz.func95,Tryz.ntmps95
 go_upto_region 1 with fail
 rw[← HW1.out,← HBX.out]
 go_wp2_with fail
 clear x0 x1 x2 x3 x4 d6
 go_loopw [56] (fun kv wr=>∃k:Nat,k≤l.length∧kv= .int .i64 (k:Int)∧Hid (up.Kl (l.take k) x=false∧Below w1.heap.size w1 wr)) (fun kv _=>l.length-(intOf kv).toNat)
 case atStart=>exact⟨0,Nat.zero_le _,rfl,Lib.hid ⟨rfl,Below.refl _ _⟩⟩
 case round=>
  obtain⟨k,hk,rfl,HR⟩:=hrel
  obtain⟨w3,hw3⟩:∃X:World,X=wr:=⟨_,rfl⟩
  subst hw3
  by_cases hlt:k<l.length
  ·obtain⟨bb,off,rfl⟩:=yI HV.out (Nat.lt_of_le_of_lt (Nat.zero_le _) hlt)
   have hki:(k:Int)<(l.length:Int):=by omega
   obtain⟨c0,c1,c2,c3,c4⟩:=yP (HV.out.below HR.out.2) hlt
   obtain⟨y,hy⟩:∃x,x=l[k]:=⟨_,rfl⟩
   rw[← hy]at c0 c1 c2 c3 c4
   obtain⟨wa,hwa⟩:∃W,W=w3.alloc (.cells (recC y).toArray 51):=⟨_,rfl⟩
   obtain⟨hBa,hsa,hya⟩:=qM w3 wa y hwa
   have hhy:wa.heap[w3.heap.size]? =some (.cells (recC y).toArray 51 (0,0)):=by rw[hwa];exact qo rfl
   obtain⟨by_,hby⟩:∃b,b=w3.heap.size:=⟨_,rfl⟩
   rw[← hby]at hya hhy
   have vW:by_<wa.heap.size:=by omega
   have HWA:=Lib.hid hwa;have HY:=Lib.hid hy;have HLT:=Lib.hid hlt;have HYA:=Lib.hid hya;have HBY:=Lib.hid hby;have QX:=Lib.hid vW;have HHY:=Lib.hid hhy;have HAL:=Lib.hid hBa
   have HBA:=Lib.hid (Below.trans HR.out.2 (hBa.mono (Below.size HR.out.2)))
   clear hwa hy hBa hsa hya hby vW hhy
   go_upto_region 17 with fail
   rw[← HWA.out,← HBY.out]
   clear c0 c1 c2 c3 c4 hki
   obtain⟨y0,y1,y2,y3,y4⟩:=id HYA.out
   simp only[Nat.zero_add]at y1 y2 y3 y4
   obtain⟨x0,x1,x2,x3,x4⟩:=HXX.out.keep (HBA.out.block bx LX.out)
   simp only[Nat.zero_add]at x1 x2 x3 x4
   have SY:=Lib.hid (show y.owner.size≤1099511627776 by rw[HY.out];exact up.uH (HIN.out _ (List.getElem_mem HLT.out)))
   go_wp2_with fail
   refine(zk y.owner x.owner SY.out SX.out wa).mono ?_
   rintro e w4 ⟨rfl,hB4⟩
   have HB4:=Lib.hid (HBA.out.trans (hB4.mono HBA.out.size))
   have HYB:=Lib.hid (HYA.out.keep (hB4.block by_ QX.out))
   obtain⟨eb,heb⟩:∃eb,eb=qz y.owner x.owner:=⟨_,rfl⟩
   rw[← heb]
   have HP:=Lib.hid (show(qz y.owner x.owner && ((decide (x.typ=5) && decide (y.typ≠5) && !up.yl y.typ) || (decide (x.typ≠5) && decide (y.typ=5) && !up.yl x.typ)))=(eb && ((decide (x.typ=5) && decide (y.typ≠5) && !up.yl y.typ) || (decide (x.typ≠5) && decide (y.typ=5) && !up.yl x.typ))) by rw[heb])
   have HNX:=Lib.hid (show up.Kl (l.take (k+1)) x=(qz y.owner x.owner && ((decide (x.typ=5) && decide (y.typ≠5) && !up.yl y.typ) || (decide (x.typ≠5) && decide (y.typ=5) && !up.yl x.typ))) by
    unfold up.Kl
    rw[up.any_next _ HLT.out,← HY.out]
    have h0:=HR.out.1
    unfold up.Kl at h0
    rw[h0,Bool.false_or])
   clear hB4 heb x0 x1 x2 x3 x4 y0 y1 y2 y3 y4
   obtain⟨y0,y1,y2,y3,y4⟩:=id HYB.out
   simp only[Nat.zero_add]at y1 y2 y3 y4
   obtain⟨x0,x1,x2,x3,x4⟩:=HXX.out.keep (HB4.out.block bx LX.out)
   simp only[Nat.zero_add]at x1 x2 x3 x4
   cases eb
   ·have hp:=HP.out
    have HNF:=Lib.hid (show up.Kl (l.take (k+1)) x=false from(by rw[HNX.out,hp];rfl))
    clear hp
    go_wp2_with fail
    go_roundw
    case rel=>
     first
      | exact⟨k+1,by omega,by go_num,Lib.hid ⟨HNF.out,HB4.out⟩⟩
      | (repeat apply Exists.intro
         refine And.intro ?_ ?_
         rotate_left
         ·repeat (first | exact rfl | refine And.intro rfl ?_)
         exact⟨k+1,by omega,by go_num,Lib.hid ⟨HNF.out,HB4.out⟩⟩)
    case measure=>simp[intOf];omega
   ·by_cases k5:x.typ=5
    ·have d1:(x.typ == 5)=true:=by rw[beq_iff_eq];exact k5
     have d2:(x.typ != 5)=false:=by rw[bne_eq_false_iff_eq];exact k5
     by_cases j5:y.typ=5
     ·have d3:(y.typ != 5)=false:=by rw[bne_eq_false_iff_eq];exact j5
      have hp:=HP.out
      have HNF:=Lib.hid (show up.Kl (l.take (k+1)) x=false from(by rw[HNX.out,hp];simp[k5,j5]))
      clear hp k5 j5
      go_wp2_with fail
      go_roundw
      case rel=>
       first
        | exact⟨k+1,by omega,by go_num,Lib.hid ⟨HNF.out,HB4.out⟩⟩
        | (repeat apply Exists.intro
           refine And.intro ?_ ?_
           rotate_left
           ·repeat (first | exact rfl | refine And.intro rfl ?_)
           exact⟨k+1,by omega,by go_num,Lib.hid ⟨HNF.out,HB4.out⟩⟩)
      case measure=>simp[intOf];omega
     ·have d3:(y.typ != 5)=true:=by rw[bne_iff_ne];exact j5
      by_cases j46:y.typ=46
      ·have d4:(y.typ != 46)=false:=by rw[bne_eq_false_iff_eq];exact j46
       have hp:=HP.out
       have HNF:=Lib.hid (show up.Kl (l.take (k+1)) x=false from(by rw[HNX.out,hp];simp[k5,j46,up.yl]))
       clear hp k5 j5 j46
       go_wp2_with fail
       go_roundw
       case rel=>
        first
         | exact⟨k+1,by omega,by go_num,Lib.hid ⟨HNF.out,HB4.out⟩⟩
         | (repeat apply Exists.intro
            refine And.intro ?_ ?_
            rotate_left
            ·repeat (first | exact rfl | refine And.intro rfl ?_)
            exact⟨k+1,by omega,by go_num,Lib.hid ⟨HNF.out,HB4.out⟩⟩)
       case measure=>simp[intOf];omega
      ·have d4:(y.typ != 46)=true:=by rw[bne_iff_ne];exact j46
       by_cases j47:y.typ=47
       ·have d7:(y.typ != 47)=false:=by rw[bne_eq_false_iff_eq];exact j47
        have hp:=HP.out
        have HNF:=Lib.hid (show up.Kl (l.take (k+1)) x=false from(by rw[HNX.out,hp];simp[k5,j47,up.yl]))
        clear hp k5 j5 j46 j47
        go_wp2_with fail
        go_roundw
        case rel=>
         first
          | exact⟨k+1,by omega,by go_num,Lib.hid ⟨HNF.out,HB4.out⟩⟩
          | (repeat apply Exists.intro
             refine And.intro ?_ ?_
             rotate_left
             ·repeat (first | exact rfl | refine And.intro rfl ?_)
             exact⟨k+1,by omega,by go_num,Lib.hid ⟨HNF.out,HB4.out⟩⟩)
        case measure=>simp[intOf];omega
       ·have d7:(y.typ != 47)=true:=by rw[bne_iff_ne];exact j47
        have hp:=HP.out
        have zb:=Lib.hid (show up.Z4 qf l x=l by
         rw[HADD.out]
         refine if_pos ?_
         unfold up.Kl
         rw[List.any_eq_true]
         exact⟨y,by rw[HY.out];exact List.getElem_mem HLT.out,(by rw[hp];simp[k5,j5,j46,j47,up.yl])⟩)
        have HE4:=Lib.hid (HB1.out.trans (HB4.out.mono HB1.out.size))
        clear hp k5 j5 j46 j47
        go_wp2_with fail
        go_ret
        exact⟨_,rfl,HE4.out,by rw[zb.out];exact HV.out.below HB4.out⟩
    ·have d1:(x.typ == 5)=false:=by rw[beq_eq_false_iff_ne];exact k5
     have d2:(x.typ != 5)=true:=by rw[bne_iff_ne];exact k5
     by_cases j5:y.typ=5
     ·have d3:(y.typ == 5)=true:=by rw[beq_iff_eq];exact j5
      by_cases j46:x.typ=46
      ·have d4:(x.typ != 46)=false:=by rw[bne_eq_false_iff_eq];exact j46
       have hp:=HP.out
       have HNF:=Lib.hid (show up.Kl (l.take (k+1)) x=false from(by rw[HNX.out,hp];simp[j46,up.yl]))
       clear hp k5 j5 j46
       go_wp2_with fail
       go_roundw
       case rel=>
        first
         | exact⟨k+1,by omega,by go_num,Lib.hid ⟨HNF.out,HB4.out⟩⟩
         | (repeat apply Exists.intro
            refine And.intro ?_ ?_
            rotate_left
            ·repeat (first | exact rfl | refine And.intro rfl ?_)
            exact⟨k+1,by omega,by go_num,Lib.hid ⟨HNF.out,HB4.out⟩⟩)
       case measure=>simp[intOf];omega
      ·have d4:(x.typ != 46)=true:=by rw[bne_iff_ne];exact j46
       by_cases j47:x.typ=47
       ·have d7:(x.typ != 47)=false:=by rw[bne_eq_false_iff_eq];exact j47
        have hp:=HP.out
        have HNF:=Lib.hid (show up.Kl (l.take (k+1)) x=false from(by rw[HNX.out,hp];simp[j47,up.yl]))
        clear hp k5 j5 j46 j47
        go_wp2_with fail
        go_roundw
        case rel=>
         first
          | exact⟨k+1,by omega,by go_num,Lib.hid ⟨HNF.out,HB4.out⟩⟩
          | (repeat apply Exists.intro
             refine And.intro ?_ ?_
             rotate_left
             ·repeat (first | exact rfl | refine And.intro rfl ?_)
             exact⟨k+1,by omega,by go_num,Lib.hid ⟨HNF.out,HB4.out⟩⟩)
        case measure=>simp[intOf];omega
       ·have d7:(x.typ != 47)=true:=by rw[bne_iff_ne];exact j47
        have hp:=HP.out
        have zb:=Lib.hid (show up.Z4 qf l x=l by
         rw[HADD.out]
         refine if_pos ?_
         unfold up.Kl
         rw[List.any_eq_true]
         exact⟨y,by rw[HY.out];exact List.getElem_mem HLT.out,(by rw[hp];simp[k5,j5,j46,j47,up.yl])⟩)
        have HE4:=Lib.hid (HB1.out.trans (HB4.out.mono HB1.out.size))
        clear hp k5 j5 j46 j47
        go_wp2_with fail
        go_ret
        exact⟨_,rfl,HE4.out,by rw[zb.out];exact HV.out.below HB4.out⟩
     ·have d3:(y.typ == 5)=false:=by rw[beq_eq_false_iff_ne];exact j5
      have hp:=HP.out
      have HNF:=Lib.hid (show up.Kl (l.take (k+1)) x=false from(by rw[HNX.out,hp];simp[k5,j5]))
      clear hp k5 j5
      go_wp2_with fail
      go_roundw
      case rel=>
       first
        | exact⟨k+1,by omega,by go_num,Lib.hid ⟨HNF.out,HB4.out⟩⟩
        | (repeat apply Exists.intro
           refine And.intro ?_ ?_
           rotate_left
           ·repeat (first | exact rfl | refine And.intro rfl ?_)
           exact⟨k+1,by omega,by go_num,Lib.hid ⟨HNF.out,HB4.out⟩⟩)
      case measure=>simp[intOf];omega
  ·obtain rfl:k=l.length:=by omega
   have hblk:up.Kl l x=false:=by have:=HR.out.1;rwa [List.take_length]at this
   obtain⟨M,hM⟩:∃M,M=l.filter fun y=>!up.JN x y:=⟨_,rfl⟩
   have zb:=Lib.hid (show up.Z4 qf l x=M.map (up.Ui x) ++ [x] by rw[HADD.out,hblk,hM];rfl)
   have HMI:=Lib.hid (show ∀y∈M,up.jO y from fun y hy=>by rw[hM]at hy;exact HIN.out y (List.mem_filter.1 hy).1)
   have HML:=Lib.hid (show M.length≤l.length by rw[hM];exact List.length_filter_le _ _)
   have HWO:=Lib.hid (QY 143 #[.pointer (some ⟨bx,0,none⟩)] HGF.out (up.JN x) l (by omega) _ w3 (HV.out.below HR.out.2) (fun r hr X hX=>rgoesA_any x r SX.out (up.uH (HIN.out r hr)) bx X (HXX.out.keep ((HR.out.2.trans (hX.mono HR.out.2.size)).block bx LX.out)) (Nat.lt_of_lt_of_le LX.out (HR.out.2.trans (hX.mono HR.out.2.size)).size)))
   rw[← hM]at HWO
   have HB3:=Lib.hid HR.out.2
   clear hlt hblk hM HR
   go_wp2_with fail
   refine HWO.out.mono ?_
   rintro e w5 ⟨v5,rfl,hB5,hown5⟩
   obtain⟨ma,mc,rfl,-⟩:=qC hown5
   have HM5:=Lib.hid (qO hown5)
   have HB5:=Lib.hid (HB3.out.trans (hB5.mono HB3.out.size))
   clear hB5 hown5
   have HXX:=Lib.hid (HXX.out.keep (HB5.out.block bx LX.out))
   have LX:=Lib.hid (Nat.lt_of_lt_of_le LX.out HB5.out.size)
   go_wp2_with fail
   go_loopw [111,13] (fun kv ov wr=>∃k:Nat,k≤M.length∧kv= .int .i64 (k:Int)∧wr.ownsRow w5.heap.size 51 5 ov ((M.take k).map (up.Ui x)).length (qG ((M.take k).map (up.Ui x)))∧Below w5.heap.size w5 wr) (fun kv _ _=>M.length-(intOf kv).toNat)
   case atStart=>exact⟨0,Nat.zero_le _,rfl,World.ownsRow_nil _ _ _ _,Below.refl _ _⟩
   case round=>
    obtain⟨kq,hkq,rfl,hown,hB⟩:=hrel
    obtain⟨w6,hw6⟩:∃X:World,X=wr:=⟨_,rfl⟩
    subst hw6
    obtain⟨oa,oc,rfl,-⟩:=qC hown
    have hml:=HML.out
    by_cases ui:kq<M.length
    ·obtain⟨bb,off,rfl⟩:=yI HM5.out (Nat.lt_of_le_of_lt (Nat.zero_le _) ui)
     obtain⟨K,hK⟩:∃K,K=(M.take kq).map (up.Ui x):=⟨_,rfl⟩
     rw[← hK]at hown ⊢
     have hKl:K.length≤M.length:=by rw[hK,List.length_map,List.length_take];omega
     have Un:=Lib.hid hown;have HBq:=Lib.hid hB;have HK:=Lib.hid hK
     clear hown hB hK
     have X9:(kq:Int)<(M.length:Int):=by omega
     obtain⟨c0,c1,c2,c3,c4⟩:=yP (HM5.out.below HBq.out) ui
     obtain⟨y,hy⟩:∃x,x=M[kq]:=⟨_,rfl⟩
     rw[← hy]at c0 c1 c2 c3 c4
     obtain⟨wa,hwa⟩:∃W,W=w6.alloc (.cells (recC y).toArray 51):=⟨_,rfl⟩
     obtain⟨hBa,hsa,hya⟩:=qM w6 wa y hwa
     have hhy:wa.heap[w6.heap.size]? =some (.cells (recC y).toArray 51 (0,0)):=by rw[hwa];exact qo rfl
     obtain⟨by_,hby⟩:∃b,b=w6.heap.size:=⟨_,rfl⟩
     rw[← hby]at hya hhy
     have vW:by_<wa.heap.size:=by omega
     have HWA:=Lib.hid hwa;have HY:=Lib.hid hy;have HLT:=Lib.hid ui;have HYA:=Lib.hid hya;have HBY:=Lib.hid hby;have QX:=Lib.hid vW;have HHY:=Lib.hid hhy;have HAL:=Lib.hid hBa
     have HBA:=Lib.hid (Below.trans HBq.out (hBa.mono (Below.size HBq.out)))
     clear hwa hy hBa hsa hya hby vW hhy
     go_upto_region 26 with fail
     rw[← HWA.out,← HBY.out]
     clear c0 c1 c2 c3 c4 X9
     obtain⟨y0,y1,y2,y3,y4⟩:=id HYA.out
     simp only[Nat.zero_add]at y1 y2 y3 y4
     obtain⟨x0,x1,x2,x3,x4⟩:=HXX.out.keep (HBA.out.block bx LX.out)
     simp only[Nat.zero_add]at x1 x2 x3 x4
     have SY:=Lib.hid (show y.owner.size≤1099511627776 by rw[HY.out];exact up.uH (HMI.out _ (List.getElem_mem HLT.out)))
     have HKN:=Lib.hid (show(M.take (kq+1)).map (up.Ui x)=K ++ [up.Ui x y] by rw[List.take_succ_eq_append_getElem HLT.out,List.map_append,HK.out,HY.out];rfl)
     have YE:=Lib.hid (ownsRow_below Un.out HAL.out)
     obtain⟨tb,htb⟩:∃tb,tb=decide (y.typ=x.typ∧x.typ≠46∧qz x.owner y.owner=true):=⟨_,rfl⟩
     have HTB:=Lib.hid htb
     clear htb
     go_cut [131] (fun t wx=>t= .bool tb∧Below wa.heap.size wa wx)
     case first=>
      by_cases k1:y.typ=x.typ
      ·have d1:(y.typ == x.typ)=true:=by rw[beq_iff_eq];exact k1
       by_cases k2:x.typ=46
       ·have d2:(x.typ != 46)=false:=by rw[bne_eq_false_iff_eq];exact k2
        have HE:=Lib.hid (show tb=false by rw[HTB.out];simp[k2])
        clear k1 k2
        go_wp2_with fail
        go_meet
        exact⟨by rw[HE.out],Below.refl _ _⟩
       ·have d2:(x.typ != 46)=true:=by rw[bne_iff_ne];exact k2
        have HE:=Lib.hid (show tb=qz x.owner y.owner by rw[HTB.out];simp[k1,k2])
        clear k1 k2
        go_wp2_with fail
        refine(zk x.owner y.owner SX.out SY.out wa).mono ?_
        rintro e w7 ⟨rfl,hB7⟩
        have HB7:=Lib.hid hB7
        clear hB7 x0 x1 x2 x3 x4 y0 y1 y2 y3 y4
        go_wp2_with fail
        go_meet
        exact⟨by rw[HE.out],HB7.out⟩
      ·have d1:(y.typ == x.typ)=false:=by rw[beq_eq_false_iff_ne];exact k1
       have HE:=Lib.hid (show tb=false by rw[HTB.out];simp[k1])
       clear k1
       go_wp2_with fail
       go_meet
       exact⟨by rw[HE.out],Below.refl _ _⟩
     case rest=>
      obtain⟨rfl,hB7⟩:=hcut
      obtain⟨w7,hw7⟩:∃X:World,X=wc:=⟨_,rfl⟩
      subst hw7
      have HB7:=Lib.hid (HBA.out.trans (hB7.mono HBA.out.size))
      have uS:=Lib.hid (ownsRow_below YE.out hB7)
      have kH:=Lib.hid ((hB7.block by_ QX.out).trans HHY.out)
      have HXX7:=Lib.hid (HXX.out.keep (HB7.out.block bx LX.out))
      clear hB7 x0 x1 x2 x3 x4 y0 y1 y2 y3 y4
      cases tb
      ·have HAG:=Lib.hid (show up.Ui x y=y by unfold up.Ui;exact if_neg (of_decide_eq_false HTB.out.symm))
       have y0:w7.cell? ⟨by_,0,none⟩=some (.string y.owner):=by rw[qg kH.out];rfl
       have y1:w7.cell? ⟨by_,1,none⟩=some (.int .i64 y.typ):=by rw[qg kH.out];rfl
       have y2:w7.cell? ⟨by_,2,none⟩=some (.int .i64 y.cls):=by rw[qg kH.out];rfl
       have y3:w7.cell? ⟨by_,3,none⟩=some (.int .i64 y.ttl):=by rw[qg kH.out];rfl
       have y4:w7.cell? ⟨by_,4,none⟩=some (.string y.data):=by rw[qg kH.out];rfl
       go_upto_region 28 with fail
       have yw:=Lib.hid (HB7.out.alloc HB7.out.size (.cells (recC y).toArray 51))
       have zy:=Lib.hid (qi uS.out fun b hb=>Below.heap_alloc w7 (.cells (recC y).toArray 51) b (uS.out.lt b hb).2)
       have yu:=Lib.hid (show K.length+1≤maxLen from by unfold maxLen;omega)
       have yt:=Lib.hid (show(K.length+1)*56≤140737488355328 from by omega)
       have zx:=Lib.hid (show w5.heap.size≤(w7.alloc (.cells (recC y).toArray 51)).heap.size from by have:=HB7.out.size;simp;omega)
       have qX:=Lib.hid (yA w7 (recC y) 51)
       go_wp2_with (at_builtin;refine qF _ rfl _ _ 22 rfl w5.heap.size 51 kX (.agg #[.string ⟨#[]⟩,.int .i64 0,.int .i64 0,.int .i64 0,.string ⟨#[]⟩]) 5 56 Tryz.underlying22 kZ.out kY.out yK.out yJ.out rfl (by decide) _ _ _ rfl zy.out ⟨w7.heap.size,0,none⟩ 1 1 (recC y) rfl rfl qX.out (by simp[Value.oneCell']) yu.out yt.out zx.out ?_)
       intro v' w10 qI q9 zi
       have zw:=Lib.hid (yw.out.grown q9 zx.out (fun j hj=>(zy.out.lt j hj).1))
       have qQ:=Lib.hid qI;have vg:=Lib.hid q9;have jE:=Lib.hid zi
       clear qI q9 zi yw zy yu yt zx qX
       clear y0 y1 y2 y3 y4
       go_wp2_with fail
       go_roundw
       case rel=>exact⟨kq+1,by omega,by go_num,by rw[HKN.out,HAG.out,List.length_append,zq];simpa[qG] using qQ.out,zw.out⟩
       case measure=>simp[intOf];omega
      ·obtain⟨y',hy'⟩:∃y':Rec,y'= { y with ttl:=x.ttl}:=⟨_,rfl⟩
       have HAG:=Lib.hid (show up.Ui x y=y' by rw[hy'];unfold up.Ui;exact if_pos (of_decide_eq_true HTB.out.symm))
       obtain⟨w8,hw8⟩:∃X,X=w7.setCell ⟨by_,3,none⟩ (.int .i64 x.ttl):=⟨_,rfl⟩
       have hh8:w8.heap[by_]? =some (.cells (recC y').toArray 51 (0,0)):=by rw[hw8,hy'];exact(qB kH.out 3 (.int .i64 x.ttl)).trans rfl
       have hby5:w5.heap.size≤by_:=by rw[HBY.out];exact HBq.out.size
       have HB8:=Lib.hid (show Below w5.heap.size w5 w8 by rw[hw8];exact HB7.out.setCell (p:=⟨by_,3,none⟩) hby5 _)
       have hnb:∀b,(Value.slice oa K.length oc).ownBlock=some b→b≠by_:=fun b hb e=>by
        have h1:=(Un.out.lt b hb).2
        rw[e,HBY.out]at h1
        omega
       have Uo:=Lib.hid (show w8.ownsRow w5.heap.size 51 5 (.slice oa K.length oc) K.length (qG K) by
        rw[hw8]
        exact qi uS.out fun b hb=>Below.heap_setCell _ _ _ _ (by simp only;exact hnb b hb))
       have q3:w7.cell? ⟨by_,3,none⟩=some (.int .i64 y.ttl):=by rw[qg kH.out];rfl
       have f3:w7.frozen? ⟨by_,3,none⟩=false:=qE kH.out 3
       obtain⟨x0,x1,x2,x3,x4⟩:=id HXX7.out
       simp only[Nat.zero_add]at x1 x2 x3 x4
       have HW8:=Lib.hid hw8;have HH8:=Lib.hid hh8
       clear hw8 hh8 hy' hby5 hnb
       go_upto_region 28 with fail
       rw[← HW8.out]
       clear x0 x1 x2 x3 x4 q3 f3
       have y0:w8.cell? ⟨by_,0,none⟩=some (.string y'.owner):=by rw[qg HH8.out];rfl
       have y1:w8.cell? ⟨by_,1,none⟩=some (.int .i64 y'.typ):=by rw[qg HH8.out];rfl
       have y2:w8.cell? ⟨by_,2,none⟩=some (.int .i64 y'.cls):=by rw[qg HH8.out];rfl
       have y3:w8.cell? ⟨by_,3,none⟩=some (.int .i64 y'.ttl):=by rw[qg HH8.out];rfl
       have y4:w8.cell? ⟨by_,4,none⟩=some (.string y'.data):=by rw[qg HH8.out];rfl
       have yw:=Lib.hid (HB8.out.alloc HB8.out.size (.cells (recC y').toArray 51))
       have zy:=Lib.hid (qi Uo.out fun b hb=>Below.heap_alloc w8 (.cells (recC y').toArray 51) b (Uo.out.lt b hb).2)
       have yu:=Lib.hid (show K.length+1≤maxLen from by unfold maxLen;omega)
       have yt:=Lib.hid (show(K.length+1)*56≤140737488355328 from by omega)
       have zx:=Lib.hid (show w5.heap.size≤(w8.alloc (.cells (recC y').toArray 51)).heap.size from by have:=HB8.out.size;simp;omega)
       have qX:=Lib.hid (yA w8 (recC y') 51)
       go_wp2_with (at_builtin;refine qF _ rfl _ _ 22 rfl w5.heap.size 51 kX (.agg #[.string ⟨#[]⟩,.int .i64 0,.int .i64 0,.int .i64 0,.string ⟨#[]⟩]) 5 56 Tryz.underlying22 kZ.out kY.out yK.out yJ.out rfl (by decide) _ _ _ rfl zy.out ⟨w8.heap.size,0,none⟩ 1 1 (recC y') rfl rfl qX.out (by simp[Value.oneCell']) yu.out yt.out zx.out ?_)
       intro v' w10 qI q9 zi
       have zw:=Lib.hid (yw.out.grown q9 zx.out (fun j hj=>(zy.out.lt j hj).1))
       have qQ:=Lib.hid qI;have vg:=Lib.hid q9;have jE:=Lib.hid zi
       clear qI q9 zi yw zy yu yt zx qX
       clear y0 y1 y2 y3 y4
       go_wp2_with fail
       go_roundw
       case rel=>exact⟨kq+1,by omega,by go_num,by rw[HKN.out,HAG.out,List.length_append,zq];simpa[qG] using qQ.out,zw.out⟩
       case measure=>simp[intOf];omega
    ·obtain rfl:kq=M.length:=by omega
     obtain⟨N,hN⟩:∃N,N=M.map (up.Ui x):=⟨_,rfl⟩
     have hNe:((M.take M.length).map (up.Ui x))=N:=by rw[List.take_length,hN]
     have hNl:N.length=M.length:=by rw[hN,List.length_map]
     have hle:((M.take M.length).map (up.Ui x)).length=M.length:=by rw[hNe,hNl]
     rw[hle]
     rw[hNe,hNl]at hown
     have HROW6:=Lib.hid hown;have HB6:=Lib.hid hB;have HNN:=Lib.hid hN
     obtain⟨x0,x1,x2,x3,x4⟩:=HXX.out.keep (hB.block bx LX.out)
     simp only[Nat.zero_add]at x1 x2 x3 x4
     have HNL:=Lib.hid hNl
     clear hown hB hN hNe ui hNl hle
     go_upto_region 30 with fail
     have yw:=Lib.hid (HB6.out.alloc HB6.out.size (.cells (recC x).toArray 51))
     have zy:=Lib.hid (qi HROW6.out fun b hb=>Below.heap_alloc w6 (.cells (recC x).toArray 51) b (HROW6.out.lt b hb).2)
     have yu:=Lib.hid (show M.length+1≤maxLen from by unfold maxLen;omega)
     have yt:=Lib.hid (show(M.length+1)*56≤140737488355328 from by omega)
     have zx:=Lib.hid (show w5.heap.size≤(w6.alloc (.cells (recC x).toArray 51)).heap.size from by have:=HB6.out.size;simp;omega)
     have qX:=Lib.hid (yA w6 (recC x) 51)
     go_wp2_with (at_builtin;refine qF _ rfl _ _ 22 rfl w5.heap.size 51 kX (.agg #[.string ⟨#[]⟩,.int .i64 0,.int .i64 0,.int .i64 0,.string ⟨#[]⟩]) 5 56 Tryz.underlying22 kZ.out kY.out yK.out yJ.out rfl (by decide) _ _ _ rfl zy.out ⟨w6.heap.size,0,none⟩ 1 1 (recC x) rfl rfl qX.out (by simp[Value.oneCell']) yu.out yt.out zx.out ?_)
     intro v' w10 qI q9 zi
     have zw:=Lib.hid (yw.out.grown q9 zx.out (fun j hj=>(zy.out.lt j hj).1))
     have qQ:=Lib.hid qI;have vg:=Lib.hid q9;have jE:=Lib.hid zi
     clear qI q9 zi yw zy yu yt zx qX
     have HE:=Lib.hid (HB1.out.trans ((HB5.out.trans (zw.out.mono HB5.out.size)).mono HB1.out.size))
     clear x0 x1 x2 x3 x4
     go_wp2_with fail
     go_ret
     refine⟨_,rfl,HE.out,?_⟩
     rw[zb.out,← HNN.out]
     obtain⟨fa,fc,hfv,-⟩:=qC qQ.out
     refine qO (base:=w5.heap.size) ?_
     rw[List.length_append,List.length_singleton,HNL.out,zq]
     exact qQ.out
end Go.Proofs.YtdjjemajfphjaaaGreat
