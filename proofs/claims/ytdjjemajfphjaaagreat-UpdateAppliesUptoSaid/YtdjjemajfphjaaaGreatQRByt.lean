import Derived.Test.YtdjjemajfphjaaaGreatQRAdd
import Derived.Deep.RegionHeld3
import Derived.Deep.CutBlock
set_option maxRecDepth 100000
set_option maxHeartbeats 8000000
namespace Go.Proofs.YtdjjemajfphjaaaGreat
open Go.RowKit Go.Shelf nm od
theorem radded_soa (qf:ByteArray)(hap:qf.size≤1099511627776)(l:List Rec)(hl:l.length≤1000000)(x:Rec)(hx:up.jO x)(hin:∀y∈l,up.jO y)(h6:x.typ=6)(v:Value)(w:World)(hrv:qy w v l):
 Calls Tryz.prog 95 #[.string qf,v,zB x] w fun e w'=>RList (up.Z4 qf l x) w e w':=by
 obtain⟨kX,uz,uy,jd,jc⟩:=info_parts jM
 have kZ:=Lib.hid uz;have kY:=Lib.hid uy;have yK:=Lib.hid jd;have yJ:=Lib.hid jc
 clear uz uy jd jc
 obtain⟨w1,hw1⟩:∃W,W=w.alloc (.cells (recC x).toArray 51):=⟨_,rfl⟩
 obtain⟨hB1,hs1,hxa⟩:=qM w w1 x hw1
 obtain⟨bx,hbx⟩:∃b,b=w.heap.size:=⟨_,rfl⟩
 rw[← hbx]at hxa
 have HW1:=Lib.hid hw1;have HBX:=Lib.hid hbx;have HXX:=Lib.hid hxa;have LX:=Lib.hid (show bx<w1.heap.size by omega);have HB1:=Lib.hid hB1
 have HV:=Lib.hid (hrv.below hB1)
 have HX:=Lib.hid hx;have HIN:=Lib.hid hin;have HX6:=Lib.hid h6
 have SX:=Lib.hid (up.uH hx)
 obtain⟨na,hna,hna2⟩:=up.Xc (hx.2.2 h6).1
 have HNA:=Lib.hid hna
 have hna3:(na:Int)<4294967296:=by omega
 obtain⟨va,vc,rfl,-⟩:=id hrv
 have hadd:=up.add_cases qf l x
 rw[if_pos h6]at hadd
 have d6:(x.typ == 6)=true:=by rw[beq_iff_eq];exact h6
 have HADD:=Lib.hid hadd
 obtain⟨x0,x1,x2,x3,x4⟩:=id hxa
 simp only[Nat.zero_add]at x1 x2 x3 x4
 clear hw1 hB1 hs1 hbx hxa hrv hx hin hadd h6 hna
 go_enter Tryz.func95,Tryz.ntmps95
 go_upto_region 1 with fail
 rw[← HW1.out,← HBX.out]
 go_wp2_with fail
 clear x0 x1 x2 x3 x4 d6
 go_loopw [21,7] (fun kv ov wr=>∃k:Nat,k≤l.length∧kv= .int .i64 (k:Int)∧wr.ownsRow w1.heap.size 51 5 ov ((l.take k).map (up.YG qf x)).length (qG ((l.take k).map (up.YG qf x)))∧Below w1.heap.size w1 wr) (fun kv _ _=>l.length-(intOf kv).toNat)
 case atStart=>exact⟨0,Nat.zero_le _,rfl,World.ownsRow_nil _ _ _ _,Below.refl _ _⟩
 case round=>
  obtain⟨kq,hkq,rfl,hown,hB⟩:=hrel
  obtain⟨w6,hw6⟩:∃X:World,X=wr:=⟨_,rfl⟩
  subst hw6
  obtain⟨oa,oc,rfl,-⟩:=qC hown
  by_cases ui:kq<l.length
  ·obtain⟨bb,off,rfl⟩:=yI HV.out (Nat.lt_of_le_of_lt (Nat.zero_le _) ui)
   obtain⟨K,hK⟩:∃K,K=(l.take kq).map (up.YG qf x):=⟨_,rfl⟩
   rw[← hK]at hown ⊢
   have hKl:K.length≤l.length:=by rw[hK,List.length_map,List.length_take];omega
   have Un:=Lib.hid hown;have HBq:=Lib.hid hB;have HK:=Lib.hid hK
   clear hown hB hK
   have X9:(kq:Int)<(l.length:Int):=by omega
   obtain⟨c0,c1,c2,c3,c4⟩:=yP (HV.out.below HBq.out) ui
   obtain⟨y,hy⟩:∃x,x=l[kq]:=⟨_,rfl⟩
   rw[← hy]at c0 c1 c2 c3 c4
   obtain⟨wa,hwa⟩:∃W,W=w6.alloc (.cells (recC y).toArray 51):=⟨_,rfl⟩
   obtain⟨hBa,hsa,hya⟩:=qM w6 wa y hwa
   have hhy:wa.heap[w6.heap.size]? =some (.cells (recC y).toArray 51 (0,0)):=by rw[hwa];exact qo rfl
   obtain⟨by_,hby⟩:∃b,b=w6.heap.size:=⟨_,rfl⟩
   rw[← hby]at hya hhy
   have vW:by_<wa.heap.size:=by omega
   have HWA:=Lib.hid hwa;have HY:=Lib.hid hy;have HLT:=Lib.hid ui;have HYA:=Lib.hid hya;have HBY:=Lib.hid hby;have QX:=Lib.hid vW;have HHY:=Lib.hid hhy;have HAL:=Lib.hid hBa
   have HBA:=Lib.hid (Below.trans HBq.out (hBa.mono (Below.size HBq.out)))
   clear hwa hy hBa hsa hya hby vW hhy
   go_upto_region 7 with fail
   rw[← HWA.out,← HBY.out]
   clear c0 c1 c2 c3 c4 X9
   obtain⟨y0,y1,y2,y3,y4⟩:=id HYA.out
   simp only[Nat.zero_add]at y1 y2 y3 y4
   obtain⟨x0,x1,x2,x3,x4⟩:=HXX.out.keep (HBA.out.block bx LX.out)
   simp only[Nat.zero_add]at x1 x2 x3 x4
   have HYI:=Lib.hid (show up.jO y by rw[HY.out];exact HIN.out _ (List.getElem_mem HLT.out))
   have HKN:=Lib.hid (show(l.take (kq+1)).map (up.YG qf x)=K ++ [up.YG qf x y] by rw[List.take_succ_eq_append_getElem HLT.out,List.map_append,HK.out,HY.out];rfl)
   have YE:=Lib.hid (ownsRow_below Un.out HAL.out)
   by_cases j6:y.typ=6
   ·have e6:(y.typ == 6)=true:=by rw[beq_iff_eq];exact j6
    obtain⟨nb,hnb,hnb2⟩:=up.Xc (HYI.out.2.2 j6).1
    have hnb3:(nb:Int)<4294967296:=by omega
    have HNB:=Lib.hid hnb;have HJ6:=Lib.hid j6
    have CNX:Hid (∀p,Calls Tryz.prog 49 #[zB x] (gw wa p) fun e w''=>e= .returned (.int .i64 (na:Int))∧∃p',w''=gw wa p'):=Lib.hid fun p=>by
     rw[← HNA.out];exact qL (YS x (HX.out.2.2 HX6.out).1 (Nat.le_trans (HX.out.2.2 HX6.out).2 (by decide)) _)
    have CNY:Hid (∀p,Calls Tryz.prog 49 #[zB y] (gw wa p) fun e w''=>e= .returned (.int .i64 (nb:Int))∧∃p',w''=gw wa p'):=Lib.hid fun p=>by
     rw[← HNB.out];exact qL (YS y (HYI.out.2.2 HJ6.out).1 (Nat.le_trans (HYI.out.2.2 HJ6.out).2 (by decide)) _)
    clear j6 hnb
    go_upto_region 8 with fail
    clear e6
    have kx0:=qh x0;have kx1:=qh x1;have kx2:=qh x2;have kx3:=qh x3;have kx4:=qh x4
    have ky0:=qh y0;have ky1:=qh y1;have ky2:=qh y2;have ky3:=qh y3;have ky4:=qh y4
    clear x0 x1 x2 x3 x4 y0 y1 y2 y3 y4
    refine qj (by kernel_rfl) (by kernel_rfl) ?_
    repeat (with_reducible refine wpQuiet_step (fun K hK=>?_);go_simp;(try simp only[undef]);first | (with_reducible refine hK _ ?_;clear hK K) | (apply Exists.intro;refine⟨fun _=>?_,hK _ ?_⟩;(first | (go_at_call 49;with_reducible exact CNX.out _) | (go_at_call 49;with_reducible exact CNY.out _));clear hK K) | (with_reducible refine⟨fun _ h=>(by cases h),?_⟩;with_reducible refine hK _ ?_;clear hK K))
    refine wpQuiet_nil ?_
    (try simp only[show Value.tuple #[]=undef from rfl])
    intro U hU
    have hBU:Below wa.heap.size wa U:=by obtain⟨g,rfl⟩:=hU;exact qp _ g
    clear hU
    clear kx0 kx1 kx2 kx3 kx4 ky0 ky1 ky2 ky3 ky4
    have HYB:=Lib.hid (HYA.out.keep (hBU.block by_ QX.out))
    obtain⟨y0,y1,y2,y3,y4⟩:=id HYB.out
    simp only[Nat.zero_add]at y1 y2 y3 y4
    obtain⟨x0,x1,x2,x3,x4⟩:=HXX.out.keep ((HBA.out.trans (hBU.mono HBA.out.size)).block bx LX.out)
    simp only[Nat.zero_add]at x1 x2 x3 x4
    have HBU:=Lib.hid (HBA.out.trans (hBU.mono HBA.out.size))
    have HROWU:=Lib.hid (ownsRow_below YE.out hBU)
    have HHYU:=Lib.hid ((hBU.block by_ QX.out).trans HHY.out)
    have HBYU:=Lib.hid (Nat.lt_of_lt_of_le QX.out hBU.size)
    obtain⟨D,hD⟩:∃D:Int,D=((na:Int)-(nb:Int)) % 4294967296:=⟨_,rfl⟩
    have hrem:(IntKind.i64.wrap (IntKind.i64.wrap ((na:Int)-(nb:Int))+4294967296)).tmod 4294967296=D:=by
     have h1:IntKind.i64.wrap ((na:Int)-(nb:Int))=(na:Int)-(nb:Int):=by rw[IntKind.wrap_i64];omega
     have h2:IntKind.i64.wrap ((na:Int)-(nb:Int)+4294967296)=(na:Int)-(nb:Int)+4294967296:=by rw[IntKind.wrap_i64];omega
     rw[h1,h2,Int.tmod_eq_emod_of_nonneg (by omega),hD]
     omega
    go_upto_region 9 with fail
    rw[hrem]
    have HD:=Lib.hid hD
    have HNW:=Lib.hid (show up.Qh (up.Qg x.data) (up.Qg y.data)=decide (1≤D∧D≤2147483647) by rw[HNA.out,HNB.out,hD];rfl)
    clear hBU hrem hD hnb2 hnb3
    go_wp2_with fail
    refine(zk x.owner qf SX.out hap U).mono ?_
    rintro e w7 ⟨rfl,hB7⟩
    have HB7:=Lib.hid (HBU.out.trans (hB7.mono HBU.out.size))
    have uS:=Lib.hid (ownsRow_below HROWU.out hB7)
    have kH:=Lib.hid ((hB7.block by_ HBYU.out).trans HHYU.out)
    have HXX7:=Lib.hid (HXX.out.keep (HB7.out.block bx LX.out))
    clear hB7 x0 x1 x2 x3 x4 y0 y1 y2 y3 y4
    obtain⟨eb,heb⟩:∃eb,eb=qz x.owner qf:=⟨_,rfl⟩
    rw[← heb]
    have HEB:=Lib.hid heb
    clear heb
    cases eb
    ·have HR:=Lib.hid (show up.YG qf x y=y by unfold up.YG;exact if_neg (fun hh=>by rw[← HEB.out]at hh;cases hh.2.1))
     have y0:w7.cell? ⟨by_,0,none⟩=some (.string y.owner):=by rw[qg kH.out];rfl
     have y1:w7.cell? ⟨by_,1,none⟩=some (.int .i64 y.typ):=by rw[qg kH.out];rfl
     have y2:w7.cell? ⟨by_,2,none⟩=some (.int .i64 y.cls):=by rw[qg kH.out];rfl
     have y3:w7.cell? ⟨by_,3,none⟩=some (.int .i64 y.ttl):=by rw[qg kH.out];rfl
     have y4:w7.cell? ⟨by_,4,none⟩=some (.string y.data):=by rw[qg kH.out];rfl
     go_upto_region 11 with fail
     have yw:=Lib.hid (HB7.out.alloc HB7.out.size (.cells (recC y).toArray 51))
     have zy:=Lib.hid (qi uS.out fun b hb=>Below.heap_alloc w7 (.cells (recC y).toArray 51) b (uS.out.lt b hb).2)
     have yu:=Lib.hid (show K.length+1≤maxLen from by unfold maxLen;omega)
     have yt:=Lib.hid (show(K.length+1)*56≤140737488355328 from by omega)
     have zx:=Lib.hid (show w1.heap.size≤(w7.alloc (.cells (recC y).toArray 51)).heap.size from by have:=HB7.out.size;simp;omega)
     have qX:=Lib.hid (yA w7 (recC y) 51)
     go_wp2_with (at_builtin;refine qF _ rfl _ _ 22 rfl w1.heap.size 51 kX (.agg #[.string ⟨#[]⟩,.int .i64 0,.int .i64 0,.int .i64 0,.string ⟨#[]⟩]) 5 56 Tryz.underlying22 kZ.out kY.out yK.out yJ.out rfl (by decide) _ _ _ rfl zy.out ⟨w7.heap.size,0,none⟩ 1 1 (recC y) rfl rfl qX.out (by simp[Value.oneCell']) yu.out yt.out zx.out ?_)
     intro v' w10 qI q9 zi
     have zw:=Lib.hid (yw.out.grown q9 zx.out (fun j hj=>(zy.out.lt j hj).1))
     have qQ:=Lib.hid qI;have vg:=Lib.hid q9;have jE:=Lib.hid zi
     clear qI q9 zi yw zy yu yt zx qX
     clear y0 y1 y2 y3 y4
     go_wp2_with fail
     go_roundw
     case rel=>exact⟨kq+1,by omega,by go_num,by rw[HKN.out,HR.out,List.length_append,zq];simpa[qG] using qQ.out,zw.out⟩
     case measure=>simp[intOf];omega
    ·by_cases g1:1≤D
     ·have q1:decide (1≤D)=true:=decide_eq_true g1
      by_cases g2:D≤2147483647
      ·have q2:decide (D≤2147483647)=true:=decide_eq_true g2
       have HR:=Lib.hid (show up.YG qf x y=x by unfold up.YG;exact if_pos ⟨HJ6.out,HEB.out.symm,by rw[HNW.out];exact decide_eq_true ⟨g1,g2⟩⟩)
       clear g1 g2
       have hby5:w1.heap.size≤by_:=by rw[HBY.out];exact HBq.out.size
       obtain⟨e1,e2,e3⟩:=fnd_store kH.out HB7.out hby5 (.string x.owner) (.int .i64 x.typ) (.int .i64 x.cls) (.int .i64 x.ttl) (.string x.data)
       obtain⟨w8,hw8⟩:∃X,X=((((w7.setCell ⟨by_,0,none⟩ (.string x.owner)).setCell ⟨by_,1,none⟩ (.int .i64 x.typ)).setCell ⟨by_,2,none⟩ (.int .i64 x.cls)).setCell ⟨by_,3,none⟩ (.int .i64 x.ttl)).setCell ⟨by_,4,none⟩ (.string x.data):=⟨_,rfl⟩
       rw[← hw8]at e1 e2 e3
       have hnb:∀b,(Value.slice oa K.length oc).ownBlock=some b→b≠by_:=fun b hb e=>by
        have h1:=(Un.out.lt b hb).2
        rw[e,HBY.out]at h1
        omega
       have Uo:=Lib.hid (show w8.ownsRow w1.heap.size 51 5 (.slice oa K.length oc) K.length (qG K) from qi uS.out fun b hb=>e3 b (hnb b hb))
       have HH8:=Lib.hid e1;have HB8:=Lib.hid e2;have HW8:=Lib.hid hw8
       have hh7:=kH.out
       have y0:w7.cell? ⟨by_,0,none⟩=some (.string y.owner):=by rw[qg hh7];rfl
       have y1:w7.cell? ⟨by_,1,none⟩=some (.int .i64 y.typ):=by rw[qg hh7];rfl
       have y2:w7.cell? ⟨by_,2,none⟩=some (.int .i64 y.cls):=by rw[qg hh7];rfl
       have y3:w7.cell? ⟨by_,3,none⟩=some (.int .i64 y.ttl):=by rw[qg hh7];rfl
       have y4:w7.cell? ⟨by_,4,none⟩=some (.string y.data):=by rw[qg hh7];rfl
       have f0:=qE hh7 0;have f1:=qE hh7 1;have f2:=qE hh7 2;have f3:=qE hh7 3;have f4:=qE hh7 4
       obtain⟨x0,x1,x2,x3,x4⟩:=id HXX7.out
       simp only[Nat.zero_add]at x1 x2 x3 x4
       clear e1 e2 e3 hw8 hnb hby5 hh7
       go_upto_region 11 with fail
       rw[← HW8.out]
       clear q1 q2 f0 f1 f2 f3 f4 x0 x1 x2 x3 x4 y0 y1 y2 y3 y4
       have y0:w8.cell? ⟨by_,0,none⟩=some (.string x.owner):=by rw[qg HH8.out];rfl
       have y1:w8.cell? ⟨by_,1,none⟩=some (.int .i64 x.typ):=by rw[qg HH8.out];rfl
       have y2:w8.cell? ⟨by_,2,none⟩=some (.int .i64 x.cls):=by rw[qg HH8.out];rfl
       have y3:w8.cell? ⟨by_,3,none⟩=some (.int .i64 x.ttl):=by rw[qg HH8.out];rfl
       have y4:w8.cell? ⟨by_,4,none⟩=some (.string x.data):=by rw[qg HH8.out];rfl
       have yw:=Lib.hid (HB8.out.alloc HB8.out.size (.cells (recC x).toArray 51))
       have zy:=Lib.hid (qi Uo.out fun b hb=>Below.heap_alloc w8 (.cells (recC x).toArray 51) b (Uo.out.lt b hb).2)
       have yu:=Lib.hid (show K.length+1≤maxLen from by unfold maxLen;omega)
       have yt:=Lib.hid (show(K.length+1)*56≤140737488355328 from by omega)
       have zx:=Lib.hid (show w1.heap.size≤(w8.alloc (.cells (recC x).toArray 51)).heap.size from by have:=HB8.out.size;simp;omega)
       have qX:=Lib.hid (yA w8 (recC x) 51)
       go_wp2_with (at_builtin;refine qF _ rfl _ _ 22 rfl w1.heap.size 51 kX (.agg #[.string ⟨#[]⟩,.int .i64 0,.int .i64 0,.int .i64 0,.string ⟨#[]⟩]) 5 56 Tryz.underlying22 kZ.out kY.out yK.out yJ.out rfl (by decide) _ _ _ rfl zy.out ⟨w8.heap.size,0,none⟩ 1 1 (recC x) rfl rfl qX.out (by simp[Value.oneCell']) yu.out yt.out zx.out ?_)
       intro v' w10 qI q9 zi
       have zw:=Lib.hid (yw.out.grown q9 zx.out (fun j hj=>(zy.out.lt j hj).1))
       have qQ:=Lib.hid qI;have vg:=Lib.hid q9;have jE:=Lib.hid zi
       clear qI q9 zi yw zy yu yt zx qX
       clear y0 y1 y2 y3 y4
       go_wp2_with fail
       go_roundw
       case rel=>exact⟨kq+1,by omega,by go_num,by rw[HKN.out,HR.out,List.length_append,zq];simpa[qG] using qQ.out,zw.out⟩
       case measure=>simp[intOf];omega
      ·have q2:decide (D≤2147483647)=false:=decide_eq_false g2
       have HR:=Lib.hid (show up.YG qf x y=y by
        unfold up.YG
        refine if_neg (fun hh=>?_)
        have h3:=hh.2.2
        rw[HNW.out]at h3
        exact g2 (of_decide_eq_true h3).2)
       clear g1 g2
       have y0:w7.cell? ⟨by_,0,none⟩=some (.string y.owner):=by rw[qg kH.out];rfl
       have y1:w7.cell? ⟨by_,1,none⟩=some (.int .i64 y.typ):=by rw[qg kH.out];rfl
       have y2:w7.cell? ⟨by_,2,none⟩=some (.int .i64 y.cls):=by rw[qg kH.out];rfl
       have y3:w7.cell? ⟨by_,3,none⟩=some (.int .i64 y.ttl):=by rw[qg kH.out];rfl
       have y4:w7.cell? ⟨by_,4,none⟩=some (.string y.data):=by rw[qg kH.out];rfl
       go_upto_region 11 with fail
       have yw:=Lib.hid (HB7.out.alloc HB7.out.size (.cells (recC y).toArray 51))
       have zy:=Lib.hid (qi uS.out fun b hb=>Below.heap_alloc w7 (.cells (recC y).toArray 51) b (uS.out.lt b hb).2)
       have yu:=Lib.hid (show K.length+1≤maxLen from by unfold maxLen;omega)
       have yt:=Lib.hid (show(K.length+1)*56≤140737488355328 from by omega)
       have zx:=Lib.hid (show w1.heap.size≤(w7.alloc (.cells (recC y).toArray 51)).heap.size from by have:=HB7.out.size;simp;omega)
       have qX:=Lib.hid (yA w7 (recC y) 51)
       go_wp2_with (at_builtin;refine qF _ rfl _ _ 22 rfl w1.heap.size 51 kX (.agg #[.string ⟨#[]⟩,.int .i64 0,.int .i64 0,.int .i64 0,.string ⟨#[]⟩]) 5 56 Tryz.underlying22 kZ.out kY.out yK.out yJ.out rfl (by decide) _ _ _ rfl zy.out ⟨w7.heap.size,0,none⟩ 1 1 (recC y) rfl rfl qX.out (by simp[Value.oneCell']) yu.out yt.out zx.out ?_)
       intro v' w10 qI q9 zi
       have zw:=Lib.hid (yw.out.grown q9 zx.out (fun j hj=>(zy.out.lt j hj).1))
       have qQ:=Lib.hid qI;have vg:=Lib.hid q9;have jE:=Lib.hid zi
       clear qI q9 zi yw zy yu yt zx qX
       clear y0 y1 y2 y3 y4
       go_wp2_with fail
       go_roundw
       case rel=>exact⟨kq+1,by omega,by go_num,by rw[HKN.out,HR.out,List.length_append,zq];simpa[qG] using qQ.out,zw.out⟩
       case measure=>simp[intOf];omega
     ·have q1:decide (1≤D)=false:=decide_eq_false g1
      have HR:=Lib.hid (show up.YG qf x y=y by
       unfold up.YG
       refine if_neg (fun hh=>?_)
       have h3:=hh.2.2
       rw[HNW.out]at h3
       exact g1 (of_decide_eq_true h3).1)
      clear g1
      have y0:w7.cell? ⟨by_,0,none⟩=some (.string y.owner):=by rw[qg kH.out];rfl
      have y1:w7.cell? ⟨by_,1,none⟩=some (.int .i64 y.typ):=by rw[qg kH.out];rfl
      have y2:w7.cell? ⟨by_,2,none⟩=some (.int .i64 y.cls):=by rw[qg kH.out];rfl
      have y3:w7.cell? ⟨by_,3,none⟩=some (.int .i64 y.ttl):=by rw[qg kH.out];rfl
      have y4:w7.cell? ⟨by_,4,none⟩=some (.string y.data):=by rw[qg kH.out];rfl
      go_upto_region 11 with fail
      have yw:=Lib.hid (HB7.out.alloc HB7.out.size (.cells (recC y).toArray 51))
      have zy:=Lib.hid (qi uS.out fun b hb=>Below.heap_alloc w7 (.cells (recC y).toArray 51) b (uS.out.lt b hb).2)
      have yu:=Lib.hid (show K.length+1≤maxLen from by unfold maxLen;omega)
      have yt:=Lib.hid (show(K.length+1)*56≤140737488355328 from by omega)
      have zx:=Lib.hid (show w1.heap.size≤(w7.alloc (.cells (recC y).toArray 51)).heap.size from by have:=HB7.out.size;simp;omega)
      have qX:=Lib.hid (yA w7 (recC y) 51)
      go_wp2_with (at_builtin;refine qF _ rfl _ _ 22 rfl w1.heap.size 51 kX (.agg #[.string ⟨#[]⟩,.int .i64 0,.int .i64 0,.int .i64 0,.string ⟨#[]⟩]) 5 56 Tryz.underlying22 kZ.out kY.out yK.out yJ.out rfl (by decide) _ _ _ rfl zy.out ⟨w7.heap.size,0,none⟩ 1 1 (recC y) rfl rfl qX.out (by simp[Value.oneCell']) yu.out yt.out zx.out ?_)
      intro v' w10 qI q9 zi
      have zw:=Lib.hid (yw.out.grown q9 zx.out (fun j hj=>(zy.out.lt j hj).1))
      have qQ:=Lib.hid qI;have vg:=Lib.hid q9;have jE:=Lib.hid zi
      clear qI q9 zi yw zy yu yt zx qX
      clear y0 y1 y2 y3 y4
      go_wp2_with fail
      go_roundw
      case rel=>exact⟨kq+1,by omega,by go_num,by rw[HKN.out,HR.out,List.length_append,zq];simpa[qG] using qQ.out,zw.out⟩
      case measure=>simp[intOf];omega
   ·have e6:(y.typ == 6)=false:=by rw[beq_eq_false_iff_ne];exact j6
    have HR:=Lib.hid (show up.YG qf x y=y by unfold up.YG;exact if_neg fun hh=>j6 hh.1)
    clear j6
    go_upto_region 9 with fail
    clear e6
    go_wp2_with fail
    refine(zk x.owner qf SX.out hap wa).mono ?_
    rintro e w7 ⟨rfl,hB7⟩
    have HB7:=Lib.hid (HBA.out.trans (hB7.mono HBA.out.size))
    have uS:=Lib.hid (ownsRow_below YE.out hB7)
    have kH:=Lib.hid ((hB7.block by_ QX.out).trans HHY.out)
    clear hB7 x0 x1 x2 x3 x4 y0 y1 y2 y3 y4
    obtain⟨eb,heb⟩:∃eb,eb=qz x.owner qf:=⟨_,rfl⟩
    rw[← heb]
    clear heb
    cases eb
    ·have y0:w7.cell? ⟨by_,0,none⟩=some (.string y.owner):=by rw[qg kH.out];rfl
     have y1:w7.cell? ⟨by_,1,none⟩=some (.int .i64 y.typ):=by rw[qg kH.out];rfl
     have y2:w7.cell? ⟨by_,2,none⟩=some (.int .i64 y.cls):=by rw[qg kH.out];rfl
     have y3:w7.cell? ⟨by_,3,none⟩=some (.int .i64 y.ttl):=by rw[qg kH.out];rfl
     have y4:w7.cell? ⟨by_,4,none⟩=some (.string y.data):=by rw[qg kH.out];rfl
     go_upto_region 11 with fail
     have yw:=Lib.hid (HB7.out.alloc HB7.out.size (.cells (recC y).toArray 51))
     have zy:=Lib.hid (qi uS.out fun b hb=>Below.heap_alloc w7 (.cells (recC y).toArray 51) b (uS.out.lt b hb).2)
     have yu:=Lib.hid (show K.length+1≤maxLen from by unfold maxLen;omega)
     have yt:=Lib.hid (show(K.length+1)*56≤140737488355328 from by omega)
     have zx:=Lib.hid (show w1.heap.size≤(w7.alloc (.cells (recC y).toArray 51)).heap.size from by have:=HB7.out.size;simp;omega)
     have qX:=Lib.hid (yA w7 (recC y) 51)
     go_wp2_with (at_builtin;refine qF _ rfl _ _ 22 rfl w1.heap.size 51 kX (.agg #[.string ⟨#[]⟩,.int .i64 0,.int .i64 0,.int .i64 0,.string ⟨#[]⟩]) 5 56 Tryz.underlying22 kZ.out kY.out yK.out yJ.out rfl (by decide) _ _ _ rfl zy.out ⟨w7.heap.size,0,none⟩ 1 1 (recC y) rfl rfl qX.out (by simp[Value.oneCell']) yu.out yt.out zx.out ?_)
     intro v' w10 qI q9 zi
     have zw:=Lib.hid (yw.out.grown q9 zx.out (fun j hj=>(zy.out.lt j hj).1))
     have qQ:=Lib.hid qI;have vg:=Lib.hid q9;have jE:=Lib.hid zi
     clear qI q9 zi yw zy yu yt zx qX
     clear y0 y1 y2 y3 y4
     go_wp2_with fail
     go_roundw
     case rel=>exact⟨kq+1,by omega,by go_num,by rw[HKN.out,HR.out,List.length_append,zq];simpa[qG] using qQ.out,zw.out⟩
     case measure=>simp[intOf];omega
    ·have y0:w7.cell? ⟨by_,0,none⟩=some (.string y.owner):=by rw[qg kH.out];rfl
     have y1:w7.cell? ⟨by_,1,none⟩=some (.int .i64 y.typ):=by rw[qg kH.out];rfl
     have y2:w7.cell? ⟨by_,2,none⟩=some (.int .i64 y.cls):=by rw[qg kH.out];rfl
     have y3:w7.cell? ⟨by_,3,none⟩=some (.int .i64 y.ttl):=by rw[qg kH.out];rfl
     have y4:w7.cell? ⟨by_,4,none⟩=some (.string y.data):=by rw[qg kH.out];rfl
     go_upto_region 11 with fail
     have yw:=Lib.hid (HB7.out.alloc HB7.out.size (.cells (recC y).toArray 51))
     have zy:=Lib.hid (qi uS.out fun b hb=>Below.heap_alloc w7 (.cells (recC y).toArray 51) b (uS.out.lt b hb).2)
     have yu:=Lib.hid (show K.length+1≤maxLen from by unfold maxLen;omega)
     have yt:=Lib.hid (show(K.length+1)*56≤140737488355328 from by omega)
     have zx:=Lib.hid (show w1.heap.size≤(w7.alloc (.cells (recC y).toArray 51)).heap.size from by have:=HB7.out.size;simp;omega)
     have qX:=Lib.hid (yA w7 (recC y) 51)
     go_wp2_with (at_builtin;refine qF _ rfl _ _ 22 rfl w1.heap.size 51 kX (.agg #[.string ⟨#[]⟩,.int .i64 0,.int .i64 0,.int .i64 0,.string ⟨#[]⟩]) 5 56 Tryz.underlying22 kZ.out kY.out yK.out yJ.out rfl (by decide) _ _ _ rfl zy.out ⟨w7.heap.size,0,none⟩ 1 1 (recC y) rfl rfl qX.out (by simp[Value.oneCell']) yu.out yt.out zx.out ?_)
     intro v' w10 qI q9 zi
     have zw:=Lib.hid (yw.out.grown q9 zx.out (fun j hj=>(zy.out.lt j hj).1))
     have qQ:=Lib.hid qI;have vg:=Lib.hid q9;have jE:=Lib.hid zi
     clear qI q9 zi yw zy yu yt zx qX
     clear y0 y1 y2 y3 y4
     go_wp2_with fail
     go_roundw
     case rel=>exact⟨kq+1,by omega,by go_num,by rw[HKN.out,HR.out,List.length_append,zq];simpa[qG] using qQ.out,zw.out⟩
     case measure=>simp[intOf];omega
  ·obtain rfl:kq=l.length:=by omega
   have hNe:(l.take l.length).map (up.YG qf x)=l.map (up.YG qf x):=by rw[List.take_length]
   rw[hNe]at hown
   have HE:=Lib.hid (HB1.out.trans (hB.mono HB1.out.size))
   have HOWN:=Lib.hid hown
   clear ui hown hB hNe
   go_wp2_with fail
   go_ret
   refine⟨_,rfl,HE.out,?_⟩
   rw[HADD.out]
   have h1:=qO HOWN.out
   simpa using h1
end Go.Proofs.YtdjjemajfphjaaaGreat
namespace Go.Proofs.YtdjjemajfphjaaaGreat
open Go.RowKit Go.Shelf nm od
namespace up
def servL (qf:ByteArray)(l:List Rec):List Rec:=l.filter fun y=>decide (y.typ=2) && qz y.owner qf
theorem serv_eq (qf:ByteArray)(l:List Rec):(l.filter fun y=>!(!(decide (y.typ=2) && qz y.owner qf)))=servL qf l:=List.filter_congr fun y _=>by rw[Bool.not_not]
theorem take_stop {qf:ByteArray}{l:List Rec}{x:Rec}(h:x.typ=6∨(x.typ=2∧qz x.owner qf=true∧(servL qf l).length=1)):Zz qf l x=l:=if_pos h
theorem take_go {qf:ByteArray}{l:List Rec}{x:Rec}(h:¬(x.typ=6∨(x.typ=2∧qz x.owner qf=true∧(servL qf l).length=1))):Zz qf l x=l.filter fun y=>!zn.qW x y:=if_neg h
end up
theorem radded_any (qf:ByteArray)(hap:qf.size≤1099511627776)(l:List Rec)(hl:l.length≤1000000)(x:Rec)(hx:up.jO x)(hin:∀y∈l,up.jO y)(v:Value)(w:World)(hrv:qy w v l):
 Calls Tryz.prog 95 #[.string qf,v,zB x] w fun e w'=>RList (up.Z4 qf l x) w e w':=by
 by_cases h6:x.typ=6
 ·exact radded_soa qf hap l hl x hx hin h6 v w hrv
 ·exact radded_block qf l hl x hx hin h6 v w hrv
theorem rchanged_any (qf:ByteArray)(hap:qf.size≤1099511627776)(l:List Rec)(hl:l.length≤1000000)(x:Rec)(hxs:x.owner.size≤1099511627776)(hx:x.cls=1→up.jO x)(hin:∀y∈l,up.jO y)(v:Value)(w:World)(hrv:qy w v l):
 Calls Tryz.prog 48 #[.string qf,v,zB x] w fun e w'=>RList (up.zO qf l x) w e w':=by
 have hmf:∀(fn:Fn) (first cap:Array Value) (w:World),(Instr.makeFunc fn first cap).run Tryz.prog w= .ok (.func fn first cap) w:=fun _ _ _ _=>rfl
 have G1:=Lib.hid fun args w=>(show(callFunc 97 args).run Tryz.prog w= .ok (.enter 97 args) w by kernel_rfl)
 have G2:=Lib.hid fun args w=>(show(callFunc 98 args).run Tryz.prog w= .ok (.enter 98 args) w by kernel_rfl)
 have G3:=Lib.hid fun args w=>(show(callFunc 99 args).run Tryz.prog w= .ok (.enter 99 args) w by kernel_rfl)
 obtain⟨w0,hw0⟩:∃X,X=w.alloc (.cells #[.string qf] 9):=⟨_,rfl⟩
 have hB0:Below w.heap.size w w0:=by rw[hw0];exact(Below.refl _ w).alloc (Nat.le_refl _) _
 have hs0:w0.heap.size=w.heap.size+1:=by rw[hw0,World.size_alloc]
 obtain⟨ba,hba⟩:∃b,b=w.heap.size:=⟨_,rfl⟩
 have ha0:w0.cell? ⟨ba,0,none⟩=some (.string qf):=by rw[hw0,qg (qo hba)];rfl
 obtain⟨w1,hw1⟩:∃W,W=w0.alloc (.cells (recC x).toArray 51):=⟨_,rfl⟩
 obtain⟨hB1,hs1,hxa⟩:=qM w0 w1 x hw1
 obtain⟨bx,hbx⟩:∃b,b=w0.heap.size:=⟨_,rfl⟩
 rw[← hbx]at hxa
 have hbx1:w.heap.size+1=bx:=by omega
 have a0:=(hB1.cell (p:=⟨ba,0,none⟩) (show ba<w0.heap.size by omega)).trans ha0
 have HW0:=Lib.hid hw0;have HW1:=Lib.hid hw1;have HBAA:=Lib.hid hba;have HBX:=Lib.hid hbx;have HBX1:=Lib.hid hbx1;have HXX:=Lib.hid hxa;have HA0:=Lib.hid a0
 have LX:=Lib.hid (show bx<w1.heap.size by omega);have LA:=Lib.hid (show ba<w1.heap.size by omega)
 have HB1:=Lib.hid (hB0.trans (hB1.mono hB0.size))
 have HV:=Lib.hid (hrv.below HB1.out)
 have HX:=Lib.hid hx;have HIN:=Lib.hid hin;have SX:=Lib.hid hxs
 obtain⟨va,vc,rfl,-⟩:=id hrv
 obtain⟨x0,x1,x2,x3,x4⟩:=id hxa
 simp only[Nat.zero_add]at x1 x2 x3 x4
 clear hw0 hB0 hs0 hba ha0 hw1 hB1 hs1 hbx hbx1 hxa hrv hx hin
 go_enter Tryz.func48,Tryz.ntmps48
 go_upto_region 1 with fail
 rw[← HW0.out,← HW1.out,HBX1.out,← HBAA.out]
 go_wp2_with fail
 refine(zk x.owner qf SX.out hap w1).mono ?_
 rintro e w2 ⟨rfl,hB2⟩
 obtain⟨tp,htp⟩:∃tp,tp=qz x.owner qf:=⟨_,rfl⟩
 rw[← htp]
 obtain⟨w3,hw3⟩:∃X,X=w2.alloc (.cells #[.bool tp] 4):=⟨_,rfl⟩
 have hB3:Below w2.heap.size w2 w3:=by rw[hw3];exact(Below.refl _ w2).alloc (Nat.le_refl _) _
 obtain⟨bt,hbt⟩:∃b,b=w2.heap.size:=⟨_,rfl⟩
 have hs3:w3.heap.size=w2.heap.size+1:=by rw[hw3,World.size_alloc]
 have ht0:w3.cell? ⟨bt,0,none⟩=some (.bool tp):=by rw[hw3,qg (qo hbt)];rfl
 have Z7:=Lib.hid (hB2.trans (hB3.mono hB2.size))
 have HT0:=Lib.hid ht0;have LT:=Lib.hid (show bt<w3.heap.size by omega);have HW3':=Lib.hid hw3;have HBT:=Lib.hid hbt;have HTP:=Lib.hid htp
 have HX3:=Lib.hid (HXX.out.keep (Z7.out.block bx LX.out));have LX3:=Lib.hid (Nat.lt_of_lt_of_le LX.out Z7.out.size)
 have HA3:=Lib.hid ((Z7.out.cell (p:=⟨ba,0,none⟩) LA.out).trans HA0.out);have LA3:=Lib.hid (Nat.lt_of_lt_of_le LA.out Z7.out.size)
 have HE3:=Lib.hid (HB1.out.trans (Z7.out.mono HB1.out.size));have HV3:=Lib.hid (HV.out.below Z7.out)
 clear hB2 hw3 hB3 hbt hs3 ht0 htp x0 x1 x2 x3 x4 a0
 go_upto_region 2 with fail
 rw[← HW3'.out,← HBT.out]
 obtain⟨x0,x1,x2,x3,x4⟩:=id HX3.out
 simp only[Nat.zero_add]at x1 x2 x3 x4
 have a0:=HA3.out;have t0:=HT0.out
 by_cases k1:x.cls=1
 ·have d1:(x.cls == 1)=true:=by rw[beq_iff_eq];exact k1
  have zb:=Lib.hid (show up.zO qf l x=up.Z4 qf l x by unfold up.zO;rw[if_pos k1])
  have HAD:=Lib.hid (radded_any qf hap l hl x (HX.out k1) HIN.out _ w3 HV3.out)
  clear k1
  go_wp2_with fail
  refine HAD.out.mono ?_
  rintro e w4 ⟨v4,rfl,hB4,hr4⟩
  have HE4:=Lib.hid (HE3.out.trans (hB4.mono HE3.out.size));have HR4:=Lib.hid hr4
  clear hB4 hr4 x0 x1 x2 x3 x4 a0 t0
  go_wp2_with fail
  go_ret
  exact⟨_,rfl,HE4.out,by rw[zb.out];exact HR4.out⟩
 ·have d1:(x.cls == 1)=false:=by rw[beq_eq_false_iff_ne];exact k1
  by_cases k2:x.cls=255
  ·have d2:(x.cls == 255)=true:=by rw[beq_iff_eq];exact k2
   have zb:=Lib.hid (show up.zO qf l x=l.filter fun y=>!up.goB tp x y by unfold up.zO;rw[if_neg k1,if_pos k2,HTP.out];rfl)
   have HWO:=Lib.hid (QY 97 #[.pointer (some ⟨bx,0,none⟩),.pointer (some ⟨bt,0,none⟩)] G1.out (up.goB tp x) l (by omega) _ w3 HV3.out (fun r hr X hX=>rgoes1_any x r tp SX.out (up.uH (HIN.out r hr)) bx bt X (HX3.out.keep (hX.block bx LX3.out)) (Nat.lt_of_lt_of_le LX3.out hX.size) ((hX.cell (p:=⟨bt,0,none⟩) LT.out).trans HT0.out) (Nat.lt_of_lt_of_le LT.out hX.size)))
   clear k1 k2
   go_wp2_with fail
   refine HWO.out.mono ?_
   rintro e w4 ⟨v4,rfl,hB4,Qo⟩
   have HE4:=Lib.hid (HE3.out.trans (hB4.mono HE3.out.size));have HR4:=Lib.hid (qO Qo)
   clear hB4 Qo x0 x1 x2 x3 x4 a0 t0
   go_wp2_with fail
   go_ret
   exact⟨_,rfl,HE4.out,by rw[zb.out];exact HR4.out⟩
  ·have d2:(x.cls == 255)=false:=by rw[beq_eq_false_iff_ne];exact k2
   have HTK:=Lib.hid (show up.zO qf l x=up.Zz qf l x by unfold up.zO;rw[if_neg k1,if_neg k2])
   have HWO:=Lib.hid (QY 98 #[.pointer (some ⟨ba,0,none⟩)] G2.out (fun y=>!(decide (y.typ=2) && qz y.owner qf)) l (by omega) _ w3 HV3.out (fun r hr X hX=>rgoes2_any qf r hap (up.uH (HIN.out r hr)) ba X ((hX.cell (p:=⟨ba,0,none⟩) LA3.out).trans HA3.out) (Nat.lt_of_lt_of_le LA3.out hX.size)))
   clear k1 k2
   go_upto_region 6 with fail
   go_wp2_with fail
   refine HWO.out.mono ?_
   rintro e w6 ⟨v6,rfl,hB6,hown6⟩
   rw[up.serv_eq]at hown6
   obtain⟨sa,sc,rfl,-⟩:=qC hown6
   obtain⟨sn,hsn⟩:∃sn,sn=(up.servL qf l).length:=⟨_,rfl⟩
   rw[← hsn]
   have HSN:=Lib.hid hsn
   have HB6:=Lib.hid (Z7.out.trans (hB6.mono Z7.out.size))
   have HE6:=Lib.hid (HE3.out.trans (hB6.mono HE3.out.size))
   have HX6:=Lib.hid (HX3.out.keep (hB6.block bx LX3.out));have LX6:=Lib.hid (Nat.lt_of_lt_of_le LX3.out hB6.size)
   have HT6:=Lib.hid ((hB6.cell (p:=⟨bt,0,none⟩) LT.out).trans HT0.out)
   have HW3:=Lib.hid (QY 99 #[.pointer (some ⟨bx,0,none⟩)] G3.out (fun y=>zn.qW x y) l (by omega) (.slice va l.length vc) w6 (HV.out.below HB6.out) (fun r hr X hX=>rgoes3_any x r SX.out (up.uH (HIN.out r hr)) bx X (HX6.out.keep (hX.block bx LX6.out)) (Nat.lt_of_lt_of_le LX6.out hX.size)))
   clear hB6 hown6 hsn x0 x1 x2 x3 x4 a0 t0 d1 d2
   obtain⟨x0,x1,x2,x3,x4⟩:=id HX6.out
   simp only[Nat.zero_add]at x1 x2 x3 x4
   have t0:=HT6.out
   by_cases k6:x.typ=6
   ·have d6:(x.typ == 6)=true:=by rw[beq_iff_eq];exact k6
    have zb:=Lib.hid (show up.zO qf l x=l by rw[HTK.out];exact up.take_stop (.inl k6))
    clear k6
    go_wp2_with fail
    go_ret
    exact⟨_,rfl,HE6.out,by rw[zb.out];exact HV.out.below HB6.out⟩
   ·have d6:(x.typ == 6)=false:=by rw[beq_eq_false_iff_ne];exact k6
    by_cases k2:x.typ=2
    ·have d2:(x.typ == 2)=true:=by rw[beq_iff_eq];exact k2
     cases tp
     ·have zb:=Lib.hid (show up.zO qf l x=l.filter fun y=>!zn.qW x y by rw[HTK.out];exact up.take_go (fun hh=>hh.elim k6 fun h=>by rw[← HTP.out]at h;cases h.2.1))
      clear k6 k2
      go_wp2_with fail
      refine HW3.out.mono ?_
      rintro e w7 ⟨v7,rfl,hB7,uQ⟩
      have HE7:=Lib.hid (HE6.out.trans (hB7.mono HE6.out.size));have HO7:=Lib.hid (qO uQ)
      clear hB7 uQ x0 x1 x2 x3 x4 t0
      go_wp2_with fail
      go_ret
      exact⟨_,rfl,HE7.out,by rw[zb.out];exact HO7.out⟩
     ·by_cases k3:sn=1
      ·have d3:((sn:Int) == 1)=true:=by rw[beq_iff_eq];omega
       have zb:=Lib.hid (show up.zO qf l x=l by rw[HTK.out];exact up.take_stop (.inr ⟨k2,HTP.out.symm,by rw[← HSN.out];exact k3⟩))
       clear k6 k2 k3
       go_wp2_with fail
       go_ret
       exact⟨_,rfl,HE6.out,by rw[zb.out];exact HV.out.below HB6.out⟩
      ·have d3:((sn:Int) == 1)=false:=by rw[beq_eq_false_iff_ne];omega
       have zb:=Lib.hid (show up.zO qf l x=l.filter fun y=>!zn.qW x y by rw[HTK.out];exact up.take_go (fun hh=>hh.elim k6 fun h=>k3 (by rw[HSN.out];exact h.2.2)))
       clear k6 k2 k3
       go_wp2_with fail
       refine HW3.out.mono ?_
       rintro e w7 ⟨v7,rfl,hB7,uQ⟩
       have HE7:=Lib.hid (HE6.out.trans (hB7.mono HE6.out.size));have HO7:=Lib.hid (qO uQ)
       clear hB7 uQ x0 x1 x2 x3 x4 t0
       go_wp2_with fail
       go_ret
       exact⟨_,rfl,HE7.out,by rw[zb.out];exact HO7.out⟩
    ·have d2:(x.typ == 2)=false:=by rw[beq_eq_false_iff_ne];exact k2
     have zb:=Lib.hid (show up.zO qf l x=l.filter fun y=>!zn.qW x y by rw[HTK.out];exact up.take_go (fun hh=>hh.elim k6 fun h=>k2 h.1))
     clear k6 k2
     go_wp2_with fail
     refine HW3.out.mono ?_
     rintro e w7 ⟨v7,rfl,hB7,uQ⟩
     have HE7:=Lib.hid (HE6.out.trans (hB7.mono HE6.out.size));have HO7:=Lib.hid (qO uQ)
     clear hB7 uQ x0 x1 x2 x3 x4 t0
     go_wp2_with fail
     go_ret
     exact⟨_,rfl,HE7.out,by rw[zb.out];exact HO7.out⟩
end Go.Proofs.YtdjjemajfphjaaaGreat
namespace Go.Proofs.YtdjjemajfphjaaaGreat
open Go.RowKit Go.Shelf nm od
def up.vC (v:Nat):Nat→ByteArray
 | 0=>⟨#[]⟩
 | n+1=>up.vC (v / 256) n ++ ⟨#[UInt8.ofNat (v % 256)]⟩
theorem up.Jd:∀n v:Nat,(up.vC v n).size=n
 | 0,_=>rfl
 | n+1,v=>by
   show(up.vC (v / 256) n ++ ⟨#[UInt8.ofNat (v % 256)]⟩:ByteArray).size=_
   rw[ByteArray.size_append,up.Jd n]
   rfl
theorem conv_one (X:World)(b n:Nat)(hn:n<256)(h:X.heap[b]? =some (.cells #[.int .u8 (n:Int)] 5 (0,0))):
 (convert 108 9 (.slice (some ⟨b,0,none⟩) 1 1)).run Tryz.prog X= .ok (.string ⟨#[UInt8.ofNat n]⟩) X:=by
 refine run_convert_bytes_back (P:=Tryz.prog) X 108 9 5 ⟨b,0,none⟩ 1 [UInt8.ofNat n] Tryz.underlying108 Tryz.underlying5 Tryz.underlying9 (fun j hj=>?_)
 obtain rfl:j=0:=by simpa using hj
 have h8:((UInt8.ofNat n).toNat:Int)=(n:Int):=by rw[UInt8.toNat_ofNat'];omega
 rw[show(⟨b,0,none⟩:Addr).add 0=⟨b,0,none⟩ from rfl,qg h]
 simp only[List.getElem_cons_zero,h8]
 rfl
theorem rbytes_any:∀(n v:Nat) (w:World),n≤4→v<4294967296→Calls Tryz.prog 52 #[.int .i64 (v:Int),.int .i64 (n:Int)] w fun e w'=>e= .returned (.string (up.vC v n))∧Below w.heap.size w w':=by
 intro n
 induction n with
 | zero=>
   intro v w _ _
   go_enter Tryz.func52,Tryz.ntmps52
   go_wp2_with fail
   go_ret
   exact⟨rfl,Below.refl _ _⟩
 | succ n ih=>
   intro v w hn hv
   obtain⟨V,hV⟩:∃V:Int,V=(v:Int):=⟨_,rfl⟩
   obtain⟨M,hM⟩:∃M:Int,M=((n+1:Nat):Int):=⟨_,rfl⟩
   have d0:(M == 0)=false:=by rw[beq_eq_false_iff_ne];omega
   obtain⟨b,hb⟩:∃b,b=v % 256:=⟨_,rfl⟩
   have hb2:b<256:=by omega
   have hq:V.tdiv 256=((v / 256:Nat):Int):=by rw[hV];rw[Int.tdiv_eq_ediv_of_nonneg (by omega)];omega
   have hr:V.tmod 256=(b:Int):=by rw[hV,Int.tmod_eq_emod_of_nonneg (by omega),hb];omega
   have hw1:IntKind.i64.wrap (V.tdiv 256)=((v / 256:Nat):Int):=by rw[hq,IntKind.wrap_i64];omega
   have hw2:IntKind.i64.wrap (M-1)=(n:Int):=by rw[hM,IntKind.wrap_i64];omega
   have hw3:IntKind.u8.wrap (V.tmod 256)=(b:Int):=by rw[hr,IntKind.wrap_u8];omega
   obtain⟨s,hs⟩:∃s,s=up.vC (v / 256) n:=⟨_,rfl⟩
   have IH:=Lib.hid (show ∀X,Calls Tryz.prog 52 #[.int .i64 (IntKind.i64.wrap (V.tdiv 256)),.int .i64 (IntKind.i64.wrap (M-1))] X fun e w'=>e= .returned (.string s)∧Below X.heap.size X w' from fun X=>by
    rw[hw1,hw2,hs];exact ih (v / 256) X (by omega) (by omega))
   obtain⟨t,ht⟩:∃t:ByteArray,t=⟨#[UInt8.ofNat b]⟩:=⟨_,rfl⟩
   have HCV:=Lib.hid (show ∀(X:World) (g:Nat),X.heap[g]? =some (.cells #[.int .u8 (IntKind.u8.wrap (V.tmod 256))] 5 (0,0))→(convert 108 9 (.slice (some ⟨g,0,none⟩) 1 1)).run Tryz.prog X= .ok (.string t) X from fun X g h=>by
    rw[hw3]at h
    rw[ht]
    exact conv_one X g b hb2 h)
   have hc1:=HCV.out (w.alloc (.cells #[.int .u8 (IntKind.u8.wrap (V.tmod 256))] 5)).drew w.heap.size (qo (w:=w) rfl)
   have hc2:=HCV.out (w.drew.alloc (.cells #[.int .u8 (IntKind.u8.wrap (V.tmod 256))] 5)) w.heap.size (qo (w:=w) rfl)
   have zb:=Lib.hid (show up.vC v (n+1)=s ++ t by rw[hs,ht,hb];rfl)
   have hlen:s.size+t.size≤1099511627776:=by
    have h1:t.size=1:=by rw[ht];rfl
    rw[hs,up.Jd,h1];omega
   obtain⟨res,hres⟩:∃res,res=up.vC v (n+1):=⟨_,rfl⟩
   have HRS:=Lib.hid (show res=s ++ t by rw[hres];exact zb.out)
   rw[← hV,← hM,← hres]
   clear ih hw1 hw2 hw3 hq hr hb hb2 hn hv hs ht hV hM zb hres
   go_enter Tryz.func52,Tryz.ntmps52
   go_upto_region 3 with fail
   go_cut [4] (fun s wx=>s= .string res∧Below w.heap.size w wx)
   case first=>
    go_region_with (first
     | (go_at_call 52;refine(IH.out _).mono ?_;rintro e wA ⟨rfl,hbA⟩;(first | (have nb:=KY hbA) | (have nb:=Jz hbA) | (have nb:=True.intro));(try (have hcA:=HCV.out _ _ nb));have hcB:=HCV.out (wA.alloc (.cells #[.int .u8 (IntKind.u8.wrap (V.tmod 256))] 5)) wA.heap.size (qo rfl)))
    all_goals
     go_wp2_with fail
     go_meet
     first
      | exact⟨by rw[HRS.out],(((Below.refl _ w).drew.trans hbA).alloc ((Below.refl _ w).drew.trans hbA).size _)⟩
      | exact⟨by rw[HRS.out],Below.trans (B:=w.heap.size) ((Below.refl w.heap.size w).drew.alloc (Nat.le_refl _) (.cells #[.int .u8 (IntKind.u8.wrap (V.tmod 256))] 5)) (Below.mono hbA (show w.heap.size≤(w.alloc (.cells #[.int .u8 (IntKind.u8.wrap (V.tmod 256))] 5)).heap.size by rw[World.size_alloc];omega))⟩
   case rest=>
    obtain⟨rfl,hB⟩:=hcut
    have HB:=Lib.hid hB
    clear hB hc1 hc2
    go_wp2_with fail
    go_ret
    exact⟨rfl,HB.out⟩
end Go.Proofs.YtdjjemajfphjaaaGreat
