import Derived.Test.YtdjjemajfphjaaaGreatQUpdD
import Derived.Test.YtdjjemajfphjaaaGreatQUpdO
import Derived.Deep.CutBlock
import Derived.Deep.RegionHeld3
set_option maxRecDepth 100000
set_option maxHeartbeats 4000000
namespace Go.Proofs.YtdjjemajfphjaaaGreat
open Go.RowKit Go.Shelf Go.WideMaps nm od
theorem bin_map (m:Option Nat)(w:World):(binOp .eql 69 (.map m) (.map none)).run Tryz.prog w= .ok (.bool m.isNone) w:=by cases m <;> kernel_rfl
theorem xw {w:World}{base W:Nat}{l:List Rec}{x:Rec}(h:x.cls≠1)(hw:xH w base W l):xH w base W (l ++ [x]):=by
 unfold xH
 rw[up.wdom_other h]
 exact jX.congr hw fun κ _=>(up.wset_other h κ).symm
theorem condition_any (top z:Nat)(qf:ByteArray)(L:List Rec)(hva:zn.Valid qf L)(x:Rec)(hx:vN x)(base W:Nat)(l:List Rec)(w:World)(hz:xu w top z qf L)(hW:xH w base W l):
 Calls Tryz.prog 29 #[.pointer (some ⟨z,0,none⟩),zB x,.map (some W)] w fun e w'=>CondPost qf L l x base W w e w':=by
 obtain⟨wa,hwa⟩:∃W,W=w.alloc (.cells (recC x).toArray 51):=⟨_,rfl⟩
 obtain⟨hBa,hsa,hxa⟩:=qM w wa x hwa
 obtain⟨bx,hbx⟩:∃b,b=w.heap.size:=⟨_,rfl⟩
 rw[← hbx]at hxa
 have zU:bx<wa.heap.size:=by omega
 obtain⟨x0,x1,x2,x3,x4⟩:=id hxa
 have HWA:=Lib.hid hwa;have HBX:=Lib.hid hbx;have yH:=Lib.hid zU;have HXA:=Lib.hid hxa;have HBA:=Lib.hid hBa
 obtain⟨base0,rg0,cap0,sb0,tb0,l0,-,hza,-⟩:=hz.v.parts
 have hzl:=qw hza
 obtain⟨ib,hib⟩:∃ib,ib=qU x.owner qf:=⟨_,rfl⟩
 have CAp:Hid (∀p,Calls Tryz.prog 16 #[.pointer (some ⟨z,0,none⟩)] (gw wa p) fun e w''=>e= .returned (.string qf)∧∃p',w''=gw wa p'):=
  Lib.hid fun p=>uZ (ve z qf _ _ _ _ (((qp wa p).block z (Nat.lt_of_lt_of_le hzl hBa.size)).trans ((hBa.block z hzl).trans hza)))
 have CW:Hid (∀p,Calls Tryz.prog 71 #[.string x.owner,.string qf] (gw wa p) fun e w''=>e= .returned (.bool ib)∧∃p',w''=gw wa p'):=Lib.hid fun p=>by rw[hib];exact qL (JW x.owner qf _)
 have hBASE:base≤w.heap.size:=Nat.le_trans hW.kI (Nat.le_of_lt hW.lt)
 have HZ:=Lib.hid (hz.kept hBa);have HWN:=Lib.hid (jX.below hW hBa);have HVA:=Lib.hid hva;have HX:=Lib.hid hx;have HIB:=Lib.hid hib;have HBASE:=Lib.hid hBASE
 have HBB:=Lib.hid (hBa.mono hBASE)
 clear hwa hBa hsa hbx zU hxa hz hib hW hza hzl hva hx hBASE
 go_enter Tryz.func29,Tryz.ntmps29
 go_upto_region 1 with fail
 rw[← HWA.out,← HBX.out]
 by_cases kt:x.ttl=0
 ·have d0:(x.ttl == 0)=true:=by rw[beq_iff_eq];exact kt
  have HT:=Lib.hid kt
  clear kt
  go_wp2_with fail
  refine(j3 1 _).mono ?_
  rintro e wN ⟨rfl,rfl⟩
  go_upto_region 2 with fail
  cases ib
  ·have HC:=Lib.hid (up.cond_out (L:=L) HT.out HIB.out.symm)
   have k0:=qh x0
   refine ze (C:=fun W=>∃p,W=gw wa p) 5 (by kernel_rfl) (by kernel_rfl) (uL wa) ?_
   simp only[List.take_succ_cons,List.take_zero,List.drop_succ_cons,List.drop_zero]
   repeat (with_reducible refine wpQuiet_step (fun K hK=>?_);go_simp;first | (with_reducible refine hK _ ?_;clear hK K) | (apply Exists.intro;refine⟨fun _=>?_,hK _ ?_⟩;(first | (go_at_call 16;with_reducible exact CAp.out _) | (go_at_call 71;with_reducible exact CW.out _));clear hK K))
   with_reducible refine wpQuiet_nil ?_
   intro W' hW'
   have hBW:Below wa.heap.size wa W':=by obtain⟨p,rfl⟩:=hW';exact qp _ _
   have HB5:=Lib.hid (HBB.out.trans (hBW.mono (Nat.le_trans HBASE.out HBA.out.size)))
   clear hW' hBW k0 x0 x1 x2 x3 x4 d0
   go_wp2_with fail
   refine(jw 10 _).mono ?_
   rintro e wN ⟨rfl,rfl⟩
   exact⟨rfl,.inr ⟨by rw[HC.out];decide,by rw[HC.out]⟩,HB5.out⟩
  ·have CA:Hid (∀p,Calls Tryz.prog 26 #[.bool true,.int .i64 10] (gw wa p) fun e w''=>e= .returned (.tuple #[])∧∃p',w''=gw wa p'):=Lib.hid fun p=>Zq (j3 10 _)
   have k0:=qh x0
   clear d0
   refine qj (by kernel_rfl) (by kernel_rfl) ?_
   repeat (with_reducible refine wpQuiet_step (fun K hK=>?_);go_simp;(try simp only[undef]);first | (with_reducible refine hK _ ?_;clear hK K) | (apply Exists.intro;refine⟨fun _=>?_,hK _ ?_⟩;(first | (go_at_call 16;with_reducible exact CAp.out _) | (go_at_call 71;with_reducible exact CW.out _) | (go_at_call 26;with_reducible exact CA.out _));clear hK K) | (with_reducible refine⟨fun _ h=>(by cases h),?_⟩;with_reducible refine hK _ ?_;clear hK K))
   refine wpQuiet_nil ?_
   (try simp only[show Value.tuple #[]=undef from rfl])
   intro U hU
   have hBU:Below wa.heap.size wa U:=by obtain⟨g,rfl⟩:=hU;exact qp _ g
   clear hU
   obtain⟨y0,y1,y2,y3,y4⟩:=HXA.out.keep (hBU.block bx yH.out)
   have HB5:=Lib.hid (HBB.out.trans (hBU.mono (Nat.le_trans HBASE.out HBA.out.size)))
   have V8:=Lib.hid (show bx<U.heap.size from Nat.lt_of_lt_of_le yH.out hBU.size)
   have HXW:=Lib.hid (HXA.out.keep (hBU.block bx yH.out))
   have HZ5:=Lib.hid (HZ.out.kept hBU);have HW5:=Lib.hid (HWN.out.below hBU)
   have HS5:=Lib.hid (Nat.le_trans HBASE.out (Nat.le_trans HBA.out.size hBU.size))
   clear hBU k0 x0 x1 x2 x3 x4
   go_wp2_with fail
   refine(set_any top z qf L HZ5.out.small x.owner x.typ HX.out.2.1 U HZ5.out.v).mono ?_
   rintro e w6 ⟨v6,rfl,hB6,hown6⟩
   obtain⟨y0,y1,y2,y3,y4⟩:=HXW.out.keep (hB6.block bx V8.out)
   have HXV:=Lib.hid (HXW.out.keep (hB6.block bx V8.out))
   have HB6:=Lib.hid (HB5.out.trans (hB6.mono HS5.out))
   have HZ6:=Lib.hid (HZ5.out.kept hB6);have HW6:=Lib.hid (HW5.out.below hB6)
   have HS6:=Lib.hid (Nat.le_trans HS5.out hB6.size);have HX6:=Lib.hid (Nat.lt_of_lt_of_le V8.out hB6.size)
   obtain⟨va,vc,rfl,-⟩:=qC hown6
   obtain⟨R,hR⟩:∃R,R=zn.qD L (zn.zh x):=⟨_,rfl⟩
   have hR':zn.qD L (qm x.owner,x.typ)=R:=hR.symm
   rw[hR']
   obtain⟨rn,hrn⟩:∃rn,rn=R.length:=⟨_,rfl⟩
   rw[← hrn]
   obtain⟨sb,hsb⟩:∃sb,sb=decide (zn.qD L (zn.zh x)≠[]):=⟨_,rfl⟩
   have hgt:decide (0<rn)=sb:=by
    rw[hsb,← hR,hrn]
    cases R with
    | nil=>simp
    | cons a b=>simp
   have HSB:=Lib.hid hsb
   clear hB6 hown6 hR hR' hrn hsb y0 y1 y2 y3 y4
   obtain⟨y0,y1,y2,y3,y4⟩:=id HXV.out
   by_cases k1:x.cls=1
   ·have d1:(x.cls == 255)=false:=by rw[beq_eq_false_iff_ne];omega
    have d2:(x.cls == 254)=false:=by rw[beq_eq_false_iff_ne];omega
    have d3:(x.cls == 1)=true:=by rw[beq_iff_eq];exact k1
    have HC:=Lib.hid (up.cond_in (L:=L) HT.out HIB.out.symm k1)
    have K1:=Lib.hid k1
    have Yt:=Lib.hid (show ∀X:World,Below w6.heap.size w6 X→Below w6.heap.size w6 X∧X.cell? ⟨bx,0,none⟩=some (.string x.owner)∧X.cell? ⟨bx,1,none⟩=some (.int .i64 x.typ) from fun X hX=>
     ⟨hX,(hX.cell (p:=⟨bx,0,none⟩) HX6.out).trans y0,(hX.cell (p:=⟨bx,1,none⟩) HX6.out).trans y1⟩)
    clear k1 hgt
    go_upto_region 14 with fail
    clear d1 d2 d3 y0 y1 y2 y3 y4
    go_cut [8] (fun pv X=>∃b,pv= .pointer (some ⟨b,0,none⟩)∧w6.heap.size≤b∧X.heap[b]? =some (.cells #[.string (qm x.owner),.int .i64 x.typ] 68 (0,0))∧Below w6.heap.size w6 X)
    case first=>
     go_region_held3 (fun X=>Below w6.heap.size w6 X∧X.cell? ⟨bx,0,none⟩=some (.string x.owner)∧X.cell? ⟨bx,1,none⟩=some (.int .i64 x.typ))
      (first | assumption | exact Yt.out _ (Below.refl _ _).drew | (go_split_ands;exact Yt.out _ (by assumption)) | (go_split_ands;exact Yt.out _ (Below.alloc (by assumption) (Below.size (by assumption)) _)) | (go_split_ands;exact Yt.out _ (Below.setCell (Below.setCell (by assumption) (by simp only;omega) _) (by simp only;omega) _)))
      (first
       | (go_at_call 65;refine(je _ _).mono ?_;rintro e w8 ⟨rfl,hB8⟩;(first | (have nb8:=KY hB8) | (have nb8:=Jz hB8) | (have nb8:=True.intro));(try (have hx8:=Zx nb8;obtain⟨t0,t1,t2,t3⟩:=hx8));go_split_ands;have hB8n:=Below.trans (B:=w6.heap.size) (a:=w6) (by assumption) (hB8.mono (Below.size (by assumption)));have hz8:=Below.size hB8n))
     ·go_wp2_with fail
      go_meet
      exact⟨_,rfl,hB8n.size,qo rfl,hB8n.alloc hB8n.size _⟩
     ·go_wp2_with fail
      go_meet
      exact⟨_,rfl,Nat.le_refl _,(qB ((qB nb8 0 (.string (qm x.owner))).trans rfl) 1 (.int .i64 x.typ)).trans rfl,(hB8n.setCell (p:=⟨w6.heap.size,0,none⟩) (Nat.le_refl _) _).setCell (p:=⟨w6.heap.size,1,none⟩) (Nat.le_refl _) _⟩
    case rest=>
     obtain⟨bp,rfl,hbp,hblk,hB⟩:=hcut
     obtain⟨w7,hw7⟩:∃X:World,X=wc:=⟨_,rfl⟩
     subst hw7
     have HKK:=Lib.hid (show uR (zn.zh x) from⟨by have:=fold_size x.owner;show(qm x.owner).size≤maxLen;unfold maxLen;omega,HX.out.2.1⟩)
     have HW7:=Lib.hid (HW6.out.below hB)
     have HX7:=Lib.hid (HXV.out.keep (hB.block bx HX6.out))
     have HB7:=Lib.hid (HB6.out.trans (hB.mono HS6.out))
     have HS7:=Lib.hid (Nat.le_trans HS6.out hB.size)
     have HBL:=Lib.hid (qw hblk)
     have HBK:=Lib.hid hblk
     have HBXS:=Lib.hid (Nat.lt_of_lt_of_le HX6.out hB.size)
     obtain⟨q0,q1,-,-⟩:=Zx hblk
     clear hblk hbp hB
     by_cases hm:zn.zh x∈up.JH l
     ·have HWD:=Lib.hid (show jX w7 base W (jA (up.JH l) (zn.zh x)) (up.JU l) by unfold jA;rw[if_pos hm];exact HW7.out)
      obtain⟨m0,-,-,-,hlk0,-⟩:=Xi HW7.out HKK.out hm
      have hlk:=hlk0 w7 (Below.refl _ _)
      simp only[zn.zh,xk]at hlk
      have hbm:(binOp .eql 69 (.map (some m0)) (.map none)).run Tryz.prog w7= .ok (.bool false) w7:=bin_map _ _
      clear hm hlk0
      go_upto_region 17 with fail
      clear hlk q0 q1 hbm
      have hmm2:zn.zh x∈jA (up.JH l) (zn.zh x):=up.jC.2 (.inr rfl)
      obtain⟨m,hm1,hm2,-,hlk,hput⟩:=Xi HWD.out HKK.out hmm2
      have CK:Hid (∀p,Calls Tryz.prog 31 #[zB x] (gw w7 p) fun e w''=>e= .returned (kC (zn.zf x))∧∃p',w''=gw w7 p'):=Lib.hid fun p=>qL (xN x _)
      obtain⟨y0,y1,y2,y3,y4⟩:=id HX7.out
      obtain⟨q0,q1,-,-⟩:=Zx HBK.out
      have k0:=qh y0;have k1:=qh y1;have k2:=qh y2;have k3:=qh y3;have k4:=qh y4;have k5:=qh q0;have k6:=qh q1
      have hl:=fun p=>hlk (gw w7 p) (qp w7 p)
      simp only[zn.zh,xk]at hl
      have HPUT:=Lib.hid hput;have HM1:=Lib.hid hm1
      clear hlk hput hmm2 hm1 y0 y1 y2 y3 y4 q0 q1
      refine ze (C:=fun Z=>∃p,Z=gw w7 p) 5 (by kernel_rfl) (by kernel_rfl) (uL w7) ?_
      simp only[List.take_succ_cons,List.take_zero,List.drop_succ_cons,List.drop_zero]
      repeat (with_reducible refine wpQuiet_step (fun K hK=>?_);go_simp;first | (with_reducible refine hK _ ?_;clear hK K) | (apply Exists.intro;refine⟨fun _=>?_,hK _ ?_⟩;(go_at_call 31;with_reducible exact CK.out _);clear hK K))
      with_reducible refine wpQuiet_nil ?_
      intro Z hZ
      have hBW:Below w7.heap.size w7 Z:=by obtain⟨p,rfl⟩:=hZ;exact qp _ _
      obtain⟨w9,hrun,hg,-,hwd⟩:=HPUT.out Z hBW (zn.zf x) (Zc HX.out.2.1)
      have HEND:=Lib.hid (show xH w9 base W (l ++ [x]) by
       unfold xH
       rw[up.wdom_in K1.out]
       exact jX.congr hwd fun κ _=>(up.wset_in K1.out κ).symm)
      have HBE:=Lib.hid ((HB7.out.trans (hBW.mono (Nat.le_trans HBASE.out HB7.out.size))).grown hg (Nat.le_trans (Nat.le_trans HBASE.out HB7.out.size) hBW.size) (fun j hj=>by cases hj;exact HM1.out))
      clear hZ hBW hg hwd k0 k1 k2 k3 k4 k5 k6 hl hm2
      go_wp2_with fail
      go_end0
      exact⟨.inl ⟨HC.out,rfl,HEND.out⟩,HBE.out⟩
     ·have hlk:=want_look_no HW7.out HKK.out hm
      simp only[zn.zh,xk]at hlk
      obtain⟨w8,hrun8,hg8,hwd8⟩:=want_new HW7.out HKK.out hm (up.wset_none hm) HS7.out
      have hmm:=@run_makeMap Tryz.prog
      have hBm:Below w7.heap.size w7 (w7.alloc (.map #[] 0)):=(Below.refl _ _).alloc (Nat.le_refl _) _
      have hkeep:∀b,b<w7.heap.size→b≠W→w8.heap[b]? =w7.heap[b]?:=fun b hb hne=>(hg8.block b (Nat.lt_of_lt_of_le hb hBm.size) (by simpa using hne)).trans (hBm.block b hb)
      have hWm:∃es c,w7.heap[W]? =some (.map es c):=by
       obtain⟨_,_,hq,_⟩:=HW7.out
       exact hq.vS
      have hbW:=HW7.out.kI
      have HX8:=Lib.hid (HX7.out.keep (hkeep bx HBXS.out (VG (a:=⟨bx,0,none⟩) HX7.out.1 hWm)))
      have HBK8:=Lib.hid ((hkeep bp HBL.out (VG (a:=⟨bp,0,none⟩) q0 hWm)).trans HBK.out)
      have HB8:=Lib.hid ((HB7.out.trans (hBm.mono HS7.out)).grown hg8 (Nat.le_trans HS7.out hBm.size) (fun j hj=>by cases hj;exact hbW))
      have HBXS8:=Lib.hid (show bx<w8.heap.size from Nat.lt_of_lt_of_le (Nat.lt_of_lt_of_le HBXS.out hBm.size) hg8.size)
      have HWD:=Lib.hid hwd8
      simp only[zn.zh,xk]at hrun8
      have hbm:(binOp .eql 69 (.map none) (.map none)).run Tryz.prog w7= .ok (.bool true) w7:=bin_map _ _
      clear hm hBm hkeep hWm hbW hg8 hwd8
      go_upto_region 17 with fail
      clear hlk hrun8 hmm q0 q1 hbm
      have hmm2:zn.zh x∈jA (up.JH l) (zn.zh x):=up.jC.2 (.inr rfl)
      obtain⟨m,hm1,hm2,-,hlk,hput⟩:=Xi HWD.out HKK.out hmm2
      have CK:Hid (∀p,Calls Tryz.prog 31 #[zB x] (gw w8 p) fun e w''=>e= .returned (kC (zn.zf x))∧∃p',w''=gw w8 p'):=Lib.hid fun p=>qL (xN x _)
      obtain⟨y0,y1,y2,y3,y4⟩:=id HX8.out
      obtain⟨q0,q1,-,-⟩:=Zx HBK8.out
      have k0:=qh y0;have k1:=qh y1;have k2:=qh y2;have k3:=qh y3;have k4:=qh y4;have k5:=qh q0;have k6:=qh q1
      have hl:=fun p=>hlk (gw w8 p) (qp w8 p)
      simp only[zn.zh,xk]at hl
      have HPUT:=Lib.hid hput;have HM1:=Lib.hid hm1
      clear hlk hput hmm2 hm1 y0 y1 y2 y3 y4 q0 q1
      refine ze (C:=fun Z=>∃p,Z=gw w8 p) 5 (by kernel_rfl) (by kernel_rfl) (uL w8) ?_
      simp only[List.take_succ_cons,List.take_zero,List.drop_succ_cons,List.drop_zero]
      repeat (with_reducible refine wpQuiet_step (fun K hK=>?_);go_simp;first | (with_reducible refine hK _ ?_;clear hK K) | (apply Exists.intro;refine⟨fun _=>?_,hK _ ?_⟩;(go_at_call 31;with_reducible exact CK.out _);clear hK K))
      with_reducible refine wpQuiet_nil ?_
      intro Z hZ
      have hBW:Below w8.heap.size w8 Z:=by obtain⟨p,rfl⟩:=hZ;exact qp _ _
      obtain⟨w9,hrun,hg,-,hwd⟩:=HPUT.out Z hBW (zn.zf x) (Zc HX.out.2.1)
      have HEND:=Lib.hid (show xH w9 base W (l ++ [x]) by
       unfold xH
       rw[up.wdom_in K1.out]
       exact jX.congr hwd fun κ _=>(up.wset_in K1.out κ).symm)
      have HBE:=Lib.hid ((HB8.out.trans (hBW.mono (Nat.le_trans HBASE.out HB8.out.size))).grown hg (Nat.le_trans (Nat.le_trans HBASE.out HB8.out.size) hBW.size) (fun j hj=>by cases hj;exact HM1.out))
      clear hZ hBW hg hwd k0 k1 k2 k3 k4 k5 k6 hl hm2
      go_wp2_with fail
      go_end0
      exact⟨.inl ⟨HC.out,rfl,HEND.out⟩,HBE.out⟩
   ·by_cases k2:x.cls=255
    ·have d1:(x.cls == 255)=true:=by rw[beq_iff_eq];exact k2
     have K1:=Lib.hid k1;have K2:=Lib.hid k2
     clear k1 k2
     have HCR:=Lib.hid (fun hd=>up.JC (L:=L) HT.out HIB.out.symm true K2.out hd)
     by_cases kd:x.data.size=0
     ·have d4:=yg kd
      have HD:=Lib.hid kd
      clear kd
      go_wp2_with fail
      refine(j3 1 _).mono ?_
      rintro e wN ⟨rfl,rfl⟩
      by_cases k5:x.typ=255
      ·have d5:(x.typ == 255)=true:=by rw[beq_iff_eq];exact k5
       have K5:=Lib.hid k5
       clear k5
       go_upto_region 11 with fail
       clear y0 y1 y2 y3 y4 hgt
       refine th.Ku (zp:=.pointer (some ⟨z,0,none⟩)) (bx:=bx) (n:=x.owner) (tb:=zn.yX L x.owner) (yes:=true) rfl rfl rfl (Nat.le_of_ble_eq_true rfl) (fun X hX=>(hX.cell (p:=⟨bx,0,none⟩) HX6.out).trans HXV.out.1)
        (fun X hX=>there_any top z qf L HVA.out x.owner HIB.out.symm X (HZ6.out.kept hX)) ?_ ?_
       ·intro hq m X hX
        have HC:=Lib.hid (show up.zP qf L x=0 by rw[HCR.out HD.out,if_pos K5.out,if_pos hq])
        have HWX:=Lib.hid (xw K1.out (HW6.out.below hX))
        have Uu:=Lib.hid (HB6.out.trans (hX.mono HS6.out))
        clear hq hX
        unfold th.endA
        simp only[Act.put,List.setIfInBounds_toArray,List.set_cons_zero,List.set_cons_succ]
        go_wp2_with fail
        go_end0
        exact⟨.inl ⟨HC.out,rfl,HWX.out⟩,Uu.out⟩
       ·intro hq g X hX
        have hc:up.zP qf L x=3:=by rw[HCR.out HD.out,if_pos K5.out,if_neg hq];rfl
        exact⟨rfl,.inr ⟨by rw[hc];decide,by rw[hc];rfl⟩,HB6.out.trans (hX.mono HS6.out)⟩
      ·have d5:(x.typ == 255)=false:=by rw[beq_eq_false_iff_ne];exact k5
       have K5:=Lib.hid k5
       clear k5
       go_upto_region 12 with fail
       clear y0 y1 y2 y3 y4 hgt
       have hmm:=@run_makeMap Tryz.prog
       obtain⟨w7,g1,g2,g3⟩:=Vg (BM.made w6) true rfl 8
       obtain⟨w8,h1,h2,h3⟩:=Vg g3 false rfl 7
       have lk:=bm_look h3 (k:=true) (p:=8) rfl
       have hB8:Below w6.heap.size w6 w8:=((Below.refl w6.heap.size w6).alloc (Nat.le_refl _) _).grown (g2.trans h2) ((Below.refl w6.heap.size w6).alloc (Nat.le_refl _) (.map #[] 0)).size (fun j hj=>by cases hj;exact Nat.le_refl _)
       have HWX:=Lib.hid (xw K1.out (HW6.out.below hB8))
       have Uu:=Lib.hid (HB6.out.trans (hB8.mono HS6.out))
       clear g2 g3 h2 h3 hB8
       cases sb
       ·have HC:=Lib.hid (show up.zP qf L x=8 by rw[HCR.out HD.out,if_neg K5.out,← HSB.out];rfl)
        go_wp2_with fail
        refine(jw 8 _).mono ?_
        rintro e wN ⟨rfl,rfl⟩
        exact⟨rfl,.inr ⟨by rw[HC.out];decide,by rw[HC.out]⟩,Uu.out⟩
       ·have HC:=Lib.hid (show up.zP qf L x=0 by rw[HCR.out HD.out,if_neg K5.out,← HSB.out];rfl)
        go_wp2_with fail
        refine(j3 8 _).mono ?_
        rintro e wN ⟨rfl,rfl⟩
        go_wp2_with fail
        go_end0
        exact⟨.inl ⟨HC.out,rfl,HWX.out⟩,Uu.out⟩
     ·have d4:=yF kd
      have HC:=Lib.hid (up.JD (L:=L) HT.out HIB.out.symm K1.out kd)
      clear kd
      go_wp2_with fail
      refine(jw 1 _).mono ?_
      rintro e wN ⟨rfl,rfl⟩
      exact⟨rfl,.inr ⟨by rw[HC.out];decide,by rw[HC.out]⟩,HB6.out⟩
    ·have d1:(x.cls == 255)=false:=by rw[beq_eq_false_iff_ne];exact k2
     by_cases k3:x.cls=254
     ·have d2:(x.cls == 254)=true:=by rw[beq_iff_eq];exact k3
      have K1:=Lib.hid k1;have K2:=Lib.hid k3
      clear k1 k2 k3
      have HCR:=Lib.hid (fun hd=>up.JC (L:=L) HT.out HIB.out.symm false K2.out hd)
      by_cases kd:x.data.size=0
      ·have d4:=yg kd
       have HD:=Lib.hid kd
       clear kd
       go_wp2_with fail
       refine(j3 1 _).mono ?_
       rintro e wN ⟨rfl,rfl⟩
       by_cases k5:x.typ=255
       ·have d5:(x.typ == 255)=true:=by rw[beq_iff_eq];exact k5
        have K5:=Lib.hid k5
        clear k5
        go_upto_region 11 with fail
        clear y0 y1 y2 y3 y4 hgt
        refine th.Ku (zp:=.pointer (some ⟨z,0,none⟩)) (bx:=bx) (n:=x.owner) (tb:=zn.yX L x.owner) (yes:=false) rfl rfl rfl (Nat.le_of_ble_eq_true rfl) (fun X hX=>(hX.cell (p:=⟨bx,0,none⟩) HX6.out).trans HXV.out.1)
         (fun X hX=>there_any top z qf L HVA.out x.owner HIB.out.symm X (HZ6.out.kept hX)) ?_ ?_
        ·intro hq m X hX
         have HC:=Lib.hid (show up.zP qf L x=0 by rw[HCR.out HD.out,if_pos K5.out,if_pos hq])
         have HWX:=Lib.hid (xw K1.out (HW6.out.below hX))
         have Uu:=Lib.hid (HB6.out.trans (hX.mono HS6.out))
         clear hq hX
         unfold th.endA
         simp only[Act.put,List.setIfInBounds_toArray,List.set_cons_zero,List.set_cons_succ]
         go_wp2_with fail
         go_end0
         exact⟨.inl ⟨HC.out,rfl,HWX.out⟩,Uu.out⟩
        ·intro hq g X hX
         have hc:up.zP qf L x=6:=by rw[HCR.out HD.out,if_pos K5.out,if_neg hq];rfl
         exact⟨rfl,.inr ⟨by rw[hc];decide,by rw[hc];rfl⟩,HB6.out.trans (hX.mono HS6.out)⟩
       ·have d5:(x.typ == 255)=false:=by rw[beq_eq_false_iff_ne];exact k5
        have K5:=Lib.hid k5
        clear k5
        go_upto_region 12 with fail
        clear y0 y1 y2 y3 y4 hgt
        have hmm:=@run_makeMap Tryz.prog
        obtain⟨w7,g1,g2,g3⟩:=Vg (BM.made w6) true rfl 8
        obtain⟨w8,h1,h2,h3⟩:=Vg g3 false rfl 7
        have lk:=bm_look h3 (k:=false) (p:=7) rfl
        have hB8:Below w6.heap.size w6 w8:=((Below.refl w6.heap.size w6).alloc (Nat.le_refl _) _).grown (g2.trans h2) ((Below.refl w6.heap.size w6).alloc (Nat.le_refl _) (.map #[] 0)).size (fun j hj=>by cases hj;exact Nat.le_refl _)
        have HWX:=Lib.hid (xw K1.out (HW6.out.below hB8))
        have Uu:=Lib.hid (HB6.out.trans (hB8.mono HS6.out))
        clear g2 g3 h2 h3 hB8
        cases sb
        ·have HC:=Lib.hid (show up.zP qf L x=0 by rw[HCR.out HD.out,if_neg K5.out,← HSB.out];rfl)
         go_wp2_with fail
         refine(j3 7 _).mono ?_
         rintro e wN ⟨rfl,rfl⟩
         go_wp2_with fail
         go_end0
         exact⟨.inl ⟨HC.out,rfl,HWX.out⟩,Uu.out⟩
        ·have HC:=Lib.hid (show up.zP qf L x=7 by rw[HCR.out HD.out,if_neg K5.out,← HSB.out];rfl)
         go_wp2_with fail
         refine(jw 7 _).mono ?_
         rintro e wN ⟨rfl,rfl⟩
         exact⟨rfl,.inr ⟨by rw[HC.out];decide,by rw[HC.out]⟩,Uu.out⟩
      ·have d4:=yF kd
       have HC:=Lib.hid (up.JD (L:=L) HT.out HIB.out.symm K1.out kd)
       clear kd
       go_wp2_with fail
       refine(jw 1 _).mono ?_
       rintro e wN ⟨rfl,rfl⟩
       exact⟨rfl,.inr ⟨by rw[HC.out];decide,by rw[HC.out]⟩,HB6.out⟩
     ·have d2:(x.cls == 254)=false:=by rw[beq_eq_false_iff_ne];exact k3
      have d3:(x.cls == 1)=false:=by rw[beq_eq_false_iff_ne];exact k1
      have HC:=Lib.hid (up.cond_cls (L:=L) HT.out HIB.out.symm k1 k2 k3)
      clear k1 k2 k3
      go_wp2_with fail
      refine(jw 1 _).mono ?_
      rintro e wN ⟨rfl,rfl⟩
      exact⟨rfl,.inr ⟨by rw[HC.out];decide,by rw[HC.out]⟩,HB6.out⟩
 ·have d0:(x.ttl == 0)=false:=by rw[beq_eq_false_iff_ne];exact kt
  have HC:=Lib.hid (up.cond_ttl (qf:=qf) (L:=L) kt)
  clear kt
  go_wp2_with fail
  refine(jw 1 _).mono ?_
  rintro e wN ⟨rfl,rfl⟩
  exact⟨rfl,.inr ⟨by rw[HC.out];decide,by rw[HC.out]⟩,HBB.out⟩
end Go.Proofs.YtdjjemajfphjaaaGreat
