import Derived.Test.YtpcmilhjpmlbpaaGreatDoorQRefV
set_option maxRecDepth 100000
set_option maxHeartbeats 4000000
namespace Go.Proofs.YtpcmilhjpmlbpaaGreatDoor
open Go.RowKit Go.Shelf nm od
theorem rbreaks_9 (qf:ByteArray)(hap:qj qf=true)(l:List Rec)(k:Nat)(hk:k<l.length)(hl:l.length≤2000)(hn:zn.jy l)(v:Value)(w:World)(hrv:qz w v l):
 Calls Tryz.prog 81 #[.int .i64 9,.string qf,v,.int .i64 k] w fun e w'=>e= .returned (.bool (zn.vo (qw qf) (zn.qE l) (zn.zt l) l[k]))∧Below w.heap.size w w':=by
 have Vf:qf.size≤1099511627776:=by have:=qQ hap;omega
 have hsz:∀r∈l,r.owner.size≤1099511627776:=fun r hr=>by have:=qQ (hn r hr);omega
 obtain⟨b,off,cap,rfl,hcap⟩:=kV hrv hk
 obtain⟨hb,c0,c1,c2,c3,c4⟩:=qN hrv hk
 have hki:(k:Int)<(l.length:Int):=by omega
 obtain⟨w1,hw1⟩:∃W,W=w.alloc (.cells (recC l[k]).toArray 80):=⟨_,rfl⟩
 obtain⟨hB1,hz1,hx⟩:=zw w w1 l[k] hw1
 have xA:=hrv.below hB1
 have lt1:w.heap.size<w1.heap.size:=by omega
 have hso:=hsz l[k] (List.getElem_mem hk)
 obtain⟨x0,x1,x2,x3,x4⟩:=id hx
 have HW1:=Lib.hid hw1;have HB1:=Lib.hid hB1;have HZ1:=Lib.hid hz1;have HX:=Lib.hid hx;have HRV:=Lib.hid hrv;have Q3:=Lib.hid xA;have HSZ:=Lib.hid hsz
 clear hw1 hB1 hz1 hx hrv xA hsz
 have hs1:=HB1.out.size
 by_cases h39:l[k].typ=39
 ·have b39:(l[k].typ != 39)=false:=by rw[h39];rfl
  have HN:=Lib.hid hn;have H39:=Lib.hid h39;have HAP:=Lib.hid hap
  clear hn h39 hap
  go_enter Tryz.func81,Tryz.ntmps81
  go_wp2_with fail
  rw[← HW1.out]
  clear c0 c1 c2 c3 c4 x1 x2 x3 x4
  go_loopw [155,13,14] (fun jv _ _ wr=>∃j:Nat,j≤l.length∧jv= .int .i64 (j:Int)∧(∀i (hi:i<l.length),i<j→zn.Un k i l[k] l[i]=false)∧Below w1.heap.size w1 wr) (fun jv _ _ _=>l.length-(intOf jv).toNat)
  case atStart=>exact⟨0,Nat.zero_le _,rfl,(fun i hi h=>by omega),Below.refl _ _⟩
  case round=>
   obtain⟨j,hj,rfl,hno,hB⟩:=hrel
   by_cases hjl:j<l.length
   ·have hji:(j:Int)<(l.length:Int):=by omega
    obtain⟨hb',ra⟩:=qN Q3.out hjl
    obtain⟨y0,y1,y2,y3,y4⟩:=ra.keep (hB.block _ hb')
    obtain⟨x0,x1,x2,x3,x4⟩:=HX.out.keep (hB.block _ lt1)
    have e0:=qh y0
    have e1:=qh y1
    have e3:=qh y3
    have f0:=qh x0
    have f1:=qh x1
    have f3:=qh x3
    have sj:=HSZ.out _ (List.getElem_mem hjl)
    have hsr:=hB.size
    clear x0 x1 x2 x3 x4 y0 y1 y2 y3 y4
    have hnx:zn.Un k j l[k] l[j]=false→∀i (hi:i<l.length),i<j+1→zn.Un k i l[k] l[i]=false:=fun h9 i hi h=>by
     rcases Nat.lt_or_ge i j with h' | h'
     ·exact hno i hi h'
     ·obtain rfl:i=j:=by omega
      exact h9
    cases he:qF l[j].owner l[k].owner
    ·have CE:Hid (∀g,Calls Tryz.prog 55 #[.string l[j].owner,.string l[k].owner] (gw wr g) fun e w''=>e= .returned (.bool false)∧∃g',w''=gw wr g'):=Lib.hid fun g=>qU (by rw[← he];exact yn _ _ sj hso _)
     cases hwi:zx l[j].owner l[k].owner
     ·have yF:=hnx (by unfold zn.Un;rw[he,hwi];simp)
      by_cases hjk:j=k
      ·have bj:((j:Int) != (k:Int))=false:=by rw[hjk];simp
       have CW:Hid (∀(W:World) g,Calls Tryz.prog 131 #[.string l[j].owner,.string l[k].owner] (gw W g) fun e w''=>e= .returned (.bool false)∧∃g',w''=gw W g'):=Lib.hid fun W g=>qU (by rw[← hwi];exact xx _ _ sj hso _)
       have HNO:=Lib.hid hno;have HB:=Lib.hid hB;have kG:=Lib.hid yF;have HE:=Lib.hid he;have HJK:=Lib.hid hjk;have HWI:=Lib.hid hwi
       clear hno hB yF he hjk hwi
       clear hnx
       go_wp2_with fail
       refine ql (by kernel_rfl) (by kernel_rfl) ?_
       repeat (with_reducible refine wpQuiet_step (fun K hK=>?_);go_simp;(try simp only[undef]);first | (with_reducible refine hK _ ?_;clear hK K) | (apply Exists.intro;refine⟨fun _=>?_,hK _ ?_⟩;(first | (go_at_call 55;with_reducible exact CE.out _));clear hK K) | (with_reducible refine⟨fun _ h=>(by cases h),?_⟩;with_reducible refine hK _ ?_;clear hK K))
       refine wpQuiet_nil ?_
       (try simp only[show Value.tuple #[]=undef from rfl])
       intro W hW
       have hBW:Below wr.heap.size wr W:=by obtain⟨g,rfl⟩:=hW;exact qC _ g
       clear hW
       have HBW:=Lib.hid (HB.out.trans (hBW.mono hsr))
       clear hBW
       obtain⟨y0,y1,y2,y3,y4⟩:=(qN Q3.out hjl).2.keep (HBW.out.block _ hb')
       obtain⟨x0,x1,x2,x3,x4⟩:=HX.out.keep (HBW.out.block _ lt1)
       have g0:=qh y0
       have g1:=qh y1
       have g2:=qh x0
       clear x0 x1 x2 x3 x4 y0 y1 y2 y3 y4 e0 e1 e3 f0 f1 f3
       go_wp2_with fail
       refine ql (by kernel_rfl) (by kernel_rfl) ?_
       repeat (with_reducible refine wpQuiet_step (fun K hK=>?_);go_simp;(try simp only[undef]);first | (with_reducible refine hK _ ?_;clear hK K) | (apply Exists.intro;refine⟨fun _=>?_,hK _ ?_⟩;(first | (go_at_call 131;with_reducible exact CW.out _ _));clear hK K) | (with_reducible refine⟨fun _ h=>(by cases h),?_⟩;with_reducible refine hK _ ?_;clear hK K))
       refine wpQuiet_nil ?_
       (try simp only[show Value.tuple #[]=undef from rfl])
       intro W2 hW2
       have xB:Below W.heap.size W W2:=by obtain⟨g,rfl⟩:=hW2;exact qC _ g
       clear hW2
       have xQ:=Lib.hid (HBW.out.trans (xB.mono HBW.out.size))
       clear xB
       go_wp2_with fail
       go_roundw
       case rel=>exact⟨j+1,by omega,by go_num,kG.out,xQ.out⟩
       case measure=>simp[intOf];omega
      ·have bj:((j:Int) != (k:Int))=true:=by rw[bne_iff_ne];omega
       have CW:Hid (∀(W:World) g,Calls Tryz.prog 131 #[.string l[j].owner,.string l[k].owner] (gw W g) fun e w''=>e= .returned (.bool false)∧∃g',w''=gw W g'):=Lib.hid fun W g=>qU (by rw[← hwi];exact xx _ _ sj hso _)
       have HNO:=Lib.hid hno;have HB:=Lib.hid hB;have kG:=Lib.hid yF;have HE:=Lib.hid he;have HJK:=Lib.hid hjk;have HWI:=Lib.hid hwi
       clear hno hB yF he hjk hwi
       clear hnx
       go_wp2_with fail
       refine ql (by kernel_rfl) (by kernel_rfl) ?_
       repeat (with_reducible refine wpQuiet_step (fun K hK=>?_);go_simp;(try simp only[undef]);first | (with_reducible refine hK _ ?_;clear hK K) | (apply Exists.intro;refine⟨fun _=>?_,hK _ ?_⟩;(first | (go_at_call 55;with_reducible exact CE.out _));clear hK K) | (with_reducible refine⟨fun _ h=>(by cases h),?_⟩;with_reducible refine hK _ ?_;clear hK K))
       refine wpQuiet_nil ?_
       (try simp only[show Value.tuple #[]=undef from rfl])
       intro W hW
       have hBW:Below wr.heap.size wr W:=by obtain⟨g,rfl⟩:=hW;exact qC _ g
       clear hW
       have HBW:=Lib.hid (HB.out.trans (hBW.mono hsr))
       clear hBW
       obtain⟨y0,y1,y2,y3,y4⟩:=(qN Q3.out hjl).2.keep (HBW.out.block _ hb')
       obtain⟨x0,x1,x2,x3,x4⟩:=HX.out.keep (HBW.out.block _ lt1)
       have g0:=qh y0
       have g1:=qh y1
       have g2:=qh x0
       clear x0 x1 x2 x3 x4 y0 y1 y2 y3 y4 e0 e1 e3 f0 f1 f3
       go_wp2_with fail
       refine ql (by kernel_rfl) (by kernel_rfl) ?_
       repeat (with_reducible refine wpQuiet_step (fun K hK=>?_);go_simp;(try simp only[undef]);first | (with_reducible refine hK _ ?_;clear hK K) | (apply Exists.intro;refine⟨fun _=>?_,hK _ ?_⟩;(first | (go_at_call 131;with_reducible exact CW.out _ _));clear hK K) | (with_reducible refine⟨fun _ h=>(by cases h),?_⟩;with_reducible refine hK _ ?_;clear hK K))
       refine wpQuiet_nil ?_
       (try simp only[show Value.tuple #[]=undef from rfl])
       intro W2 hW2
       have xB:Below W.heap.size W W2:=by obtain⟨g,rfl⟩:=hW2;exact qC _ g
       clear hW2
       have xQ:=Lib.hid (HBW.out.trans (xB.mono HBW.out.size))
       clear xB
       go_wp2_with fail
       go_roundw
       case rel=>exact⟨j+1,by omega,by go_num,kG.out,xQ.out⟩
       case measure=>simp[intOf];omega
     ·have hres:zn.vo (qw qf) (zn.qE l) (zn.zt l) l[k]=true:=zn.bad5_hit hk hjl H39.out HN.out (by unfold zn.Un;rw[he,hwi];simp)
      by_cases hjk:j=k
      ·have bj:((j:Int) != (k:Int))=false:=by rw[hjk];simp
       have yF:True:=trivial
       have CW:Hid (∀(W:World) g,Calls Tryz.prog 131 #[.string l[j].owner,.string l[k].owner] (gw W g) fun e w''=>e= .returned (.bool true)∧∃g',w''=gw W g'):=Lib.hid fun W g=>qU (by rw[← hwi];exact xx _ _ sj hso _)
       have HNO:=Lib.hid hno;have HB:=Lib.hid hB;have kG:=Lib.hid yF;have HE:=Lib.hid he;have HJK:=Lib.hid hjk;have HWI:=Lib.hid hwi
       clear hno hB yF he hjk hwi
       clear hnx
       go_wp2_with fail
       refine ql (by kernel_rfl) (by kernel_rfl) ?_
       repeat (with_reducible refine wpQuiet_step (fun K hK=>?_);go_simp;(try simp only[undef]);first | (with_reducible refine hK _ ?_;clear hK K) | (apply Exists.intro;refine⟨fun _=>?_,hK _ ?_⟩;(first | (go_at_call 55;with_reducible exact CE.out _));clear hK K) | (with_reducible refine⟨fun _ h=>(by cases h),?_⟩;with_reducible refine hK _ ?_;clear hK K))
       refine wpQuiet_nil ?_
       (try simp only[show Value.tuple #[]=undef from rfl])
       intro W hW
       have hBW:Below wr.heap.size wr W:=by obtain⟨g,rfl⟩:=hW;exact qC _ g
       clear hW
       have HBW:=Lib.hid (HB.out.trans (hBW.mono hsr))
       clear hBW
       obtain⟨y0,y1,y2,y3,y4⟩:=(qN Q3.out hjl).2.keep (HBW.out.block _ hb')
       obtain⟨x0,x1,x2,x3,x4⟩:=HX.out.keep (HBW.out.block _ lt1)
       have g0:=qh y0
       have g1:=qh y1
       have g2:=qh x0
       clear x0 x1 x2 x3 x4 y0 y1 y2 y3 y4 e0 e1 e3 f0 f1 f3
       go_wp2_with fail
       refine ql (by kernel_rfl) (by kernel_rfl) ?_
       repeat (with_reducible refine wpQuiet_step (fun K hK=>?_);go_simp;(try simp only[undef]);first | (with_reducible refine hK _ ?_;clear hK K) | (apply Exists.intro;refine⟨fun _=>?_,hK _ ?_⟩;(first | (go_at_call 131;with_reducible exact CW.out _ _));clear hK K) | (with_reducible refine⟨fun _ h=>(by cases h),?_⟩;with_reducible refine hK _ ?_;clear hK K))
       refine wpQuiet_nil ?_
       (try simp only[show Value.tuple #[]=undef from rfl])
       intro W2 hW2
       have xB:Below W.heap.size W W2:=by obtain⟨g,rfl⟩:=hW2;exact qC _ g
       clear hW2
       have xQ:=Lib.hid (HB1.out.trans ((HBW.out.trans (xB.mono HBW.out.size)).mono hs1))
       clear xB
       have zA:=Lib.hid hres
       clear hres
       go_wp2_with fail
       go_ret
       exact⟨qI zA.out.symm,xQ.out⟩
      ·have bj:((j:Int) != (k:Int))=true:=by rw[bne_iff_ne];omega
       have yF:True:=trivial
       have CW:Hid (∀(W:World) g,Calls Tryz.prog 131 #[.string l[j].owner,.string l[k].owner] (gw W g) fun e w''=>e= .returned (.bool true)∧∃g',w''=gw W g'):=Lib.hid fun W g=>qU (by rw[← hwi];exact xx _ _ sj hso _)
       have HNO:=Lib.hid hno;have HB:=Lib.hid hB;have kG:=Lib.hid yF;have HE:=Lib.hid he;have HJK:=Lib.hid hjk;have HWI:=Lib.hid hwi
       clear hno hB yF he hjk hwi
       clear hnx
       go_wp2_with fail
       refine ql (by kernel_rfl) (by kernel_rfl) ?_
       repeat (with_reducible refine wpQuiet_step (fun K hK=>?_);go_simp;(try simp only[undef]);first | (with_reducible refine hK _ ?_;clear hK K) | (apply Exists.intro;refine⟨fun _=>?_,hK _ ?_⟩;(first | (go_at_call 55;with_reducible exact CE.out _));clear hK K) | (with_reducible refine⟨fun _ h=>(by cases h),?_⟩;with_reducible refine hK _ ?_;clear hK K))
       refine wpQuiet_nil ?_
       (try simp only[show Value.tuple #[]=undef from rfl])
       intro W hW
       have hBW:Below wr.heap.size wr W:=by obtain⟨g,rfl⟩:=hW;exact qC _ g
       clear hW
       have HBW:=Lib.hid (HB.out.trans (hBW.mono hsr))
       clear hBW
       obtain⟨y0,y1,y2,y3,y4⟩:=(qN Q3.out hjl).2.keep (HBW.out.block _ hb')
       obtain⟨x0,x1,x2,x3,x4⟩:=HX.out.keep (HBW.out.block _ lt1)
       have g0:=qh y0
       have g1:=qh y1
       have g2:=qh x0
       clear x0 x1 x2 x3 x4 y0 y1 y2 y3 y4 e0 e1 e3 f0 f1 f3
       go_wp2_with fail
       refine ql (by kernel_rfl) (by kernel_rfl) ?_
       repeat (with_reducible refine wpQuiet_step (fun K hK=>?_);go_simp;(try simp only[undef]);first | (with_reducible refine hK _ ?_;clear hK K) | (apply Exists.intro;refine⟨fun _=>?_,hK _ ?_⟩;(first | (go_at_call 131;with_reducible exact CW.out _ _));clear hK K) | (with_reducible refine⟨fun _ h=>(by cases h),?_⟩;with_reducible refine hK _ ?_;clear hK K))
       refine wpQuiet_nil ?_
       (try simp only[show Value.tuple #[]=undef from rfl])
       intro W2 hW2
       have xB:Below W.heap.size W W2:=by obtain⟨g,rfl⟩:=hW2;exact qC _ g
       clear hW2
       have xQ:=Lib.hid (HB1.out.trans ((HBW.out.trans (xB.mono HBW.out.size)).mono hs1))
       clear xB
       have zA:=Lib.hid hres
       clear hres
       go_wp2_with fail
       go_ret
       exact⟨qI zA.out.symm,xQ.out⟩
    ·have CE:Hid (∀g,Calls Tryz.prog 55 #[.string l[j].owner,.string l[k].owner] (gw wr g) fun e w''=>e= .returned (.bool true)∧∃g',w''=gw wr g'):=Lib.hid fun g=>qU (by rw[← he];exact yn _ _ sj hso _)
     by_cases hjk:j=k
     ·have bj:((j:Int) != (k:Int))=false:=by rw[hjk];simp
      have yF:=hnx (by unfold zn.Un;rw[he,decide_eq_false (show ¬j≠k from fun h=>h hjk)];simp)
      have HNO:=Lib.hid hno;have HB:=Lib.hid hB;have kG:=Lib.hid yF;have HE:=Lib.hid he;have HJK:=Lib.hid hjk
      clear hno hB yF he hjk
      clear hnx
      go_wp2_with fail
      refine ql (by kernel_rfl) (by kernel_rfl) ?_
      repeat (with_reducible refine wpQuiet_step (fun K hK=>?_);go_simp;(try simp only[undef]);first | (with_reducible refine hK _ ?_;clear hK K) | (apply Exists.intro;refine⟨fun _=>?_,hK _ ?_⟩;(first | (go_at_call 55;with_reducible exact CE.out _));clear hK K) | (with_reducible refine⟨fun _ h=>(by cases h),?_⟩;with_reducible refine hK _ ?_;clear hK K))
      refine wpQuiet_nil ?_
      (try simp only[show Value.tuple #[]=undef from rfl])
      intro W hW
      have hBW:Below wr.heap.size wr W:=by obtain⟨g,rfl⟩:=hW;exact qC _ g
      clear hW
      have HBW:=Lib.hid (HB.out.trans (hBW.mono hsr))
      clear hBW
      obtain⟨y0,y1,y2,y3,y4⟩:=(qN Q3.out hjl).2.keep (HBW.out.block _ hb')
      obtain⟨x0,x1,x2,x3,x4⟩:=HX.out.keep (HBW.out.block _ lt1)
      have g0:=qh y0
      have g1:=qh y1
      have g2:=qh x0
      clear x0 x1 x2 x3 x4 y0 y1 y2 y3 y4 e0 e1 e3 f0 f1 f3
      go_wp2_with fail
      refine ql (by kernel_rfl) (by kernel_rfl) ?_
      repeat (with_reducible refine wpQuiet_step (fun K hK=>?_);go_simp;(try simp only[undef]);first | (with_reducible refine hK _ ?_;clear hK K) | (apply Exists.intro;refine⟨fun _=>?_,hK _ ?_⟩;(first | (fail));clear hK K) | (with_reducible refine⟨fun _ h=>(by cases h),?_⟩;with_reducible refine hK _ ?_;clear hK K))
      refine wpQuiet_nil ?_
      (try simp only[show Value.tuple #[]=undef from rfl])
      intro W2 hW2
      have xB:Below W.heap.size W W2:=by obtain⟨g,rfl⟩:=hW2;exact qC _ g
      clear hW2
      have xQ:=Lib.hid (HBW.out.trans (xB.mono HBW.out.size))
      clear xB
      go_wp2_with fail
      go_roundw
      case rel=>exact⟨j+1,by omega,by go_num,kG.out,xQ.out⟩
      case measure=>simp[intOf];omega
     ·have bj:((j:Int) != (k:Int))=true:=by rw[bne_iff_ne];omega
      by_cases t39:l[j].typ=39
      ·have bt:(l[j].typ == 39)=true:=by rw[beq_iff_eq];exact t39
       have hres:zn.vo (qw qf) (zn.qE l) (zn.zt l) l[k]=true:=zn.bad5_hit hk hjl H39.out HN.out (by unfold zn.Un;rw[he,decide_eq_true hjk,decide_eq_true t39];simp)
       have yF:True:=trivial
       have T39:=Lib.hid t39
       clear t39
       have HNO:=Lib.hid hno;have HB:=Lib.hid hB;have kG:=Lib.hid yF;have HE:=Lib.hid he;have HJK:=Lib.hid hjk
       clear hno hB yF he hjk
       clear hnx
       go_wp2_with fail
       refine ql (by kernel_rfl) (by kernel_rfl) ?_
       repeat (with_reducible refine wpQuiet_step (fun K hK=>?_);go_simp;(try simp only[undef]);first | (with_reducible refine hK _ ?_;clear hK K) | (apply Exists.intro;refine⟨fun _=>?_,hK _ ?_⟩;(first | (go_at_call 55;with_reducible exact CE.out _));clear hK K) | (with_reducible refine⟨fun _ h=>(by cases h),?_⟩;with_reducible refine hK _ ?_;clear hK K))
       refine wpQuiet_nil ?_
       (try simp only[show Value.tuple #[]=undef from rfl])
       intro W hW
       have hBW:Below wr.heap.size wr W:=by obtain⟨g,rfl⟩:=hW;exact qC _ g
       clear hW
       have HBW:=Lib.hid (HB.out.trans (hBW.mono hsr))
       clear hBW
       obtain⟨y0,y1,y2,y3,y4⟩:=(qN Q3.out hjl).2.keep (HBW.out.block _ hb')
       obtain⟨x0,x1,x2,x3,x4⟩:=HX.out.keep (HBW.out.block _ lt1)
       have g0:=qh y0
       have g1:=qh y1
       have g2:=qh x0
       clear x0 x1 x2 x3 x4 y0 y1 y2 y3 y4 e0 e1 e3 f0 f1 f3
       go_wp2_with fail
       refine ql (by kernel_rfl) (by kernel_rfl) ?_
       repeat (with_reducible refine wpQuiet_step (fun K hK=>?_);go_simp;(try simp only[undef]);first | (with_reducible refine hK _ ?_;clear hK K) | (apply Exists.intro;refine⟨fun _=>?_,hK _ ?_⟩;(first | (fail));clear hK K) | (with_reducible refine⟨fun _ h=>(by cases h),?_⟩;with_reducible refine hK _ ?_;clear hK K))
       refine wpQuiet_nil ?_
       (try simp only[show Value.tuple #[]=undef from rfl])
       intro W2 hW2
       have xB:Below W.heap.size W W2:=by obtain⟨g,rfl⟩:=hW2;exact qC _ g
       clear hW2
       have xQ:=Lib.hid (HB1.out.trans ((HBW.out.trans (xB.mono HBW.out.size)).mono hs1))
       clear xB
       have zA:=Lib.hid hres
       clear hres
       go_wp2_with fail
       go_ret
       exact⟨qI zA.out.symm,xQ.out⟩
      ·have bt:(l[j].typ == 39)=false:=by rw[beq_eq_false_iff_ne];exact t39
       have yF:=hnx (by unfold zn.Un;rw[he,decide_eq_false t39];simp)
       have T39:=Lib.hid t39
       clear t39
       have HNO:=Lib.hid hno;have HB:=Lib.hid hB;have kG:=Lib.hid yF;have HE:=Lib.hid he;have HJK:=Lib.hid hjk
       clear hno hB yF he hjk
       clear hnx
       go_wp2_with fail
       refine ql (by kernel_rfl) (by kernel_rfl) ?_
       repeat (with_reducible refine wpQuiet_step (fun K hK=>?_);go_simp;(try simp only[undef]);first | (with_reducible refine hK _ ?_;clear hK K) | (apply Exists.intro;refine⟨fun _=>?_,hK _ ?_⟩;(first | (go_at_call 55;with_reducible exact CE.out _));clear hK K) | (with_reducible refine⟨fun _ h=>(by cases h),?_⟩;with_reducible refine hK _ ?_;clear hK K))
       refine wpQuiet_nil ?_
       (try simp only[show Value.tuple #[]=undef from rfl])
       intro W hW
       have hBW:Below wr.heap.size wr W:=by obtain⟨g,rfl⟩:=hW;exact qC _ g
       clear hW
       have HBW:=Lib.hid (HB.out.trans (hBW.mono hsr))
       clear hBW
       obtain⟨y0,y1,y2,y3,y4⟩:=(qN Q3.out hjl).2.keep (HBW.out.block _ hb')
       obtain⟨x0,x1,x2,x3,x4⟩:=HX.out.keep (HBW.out.block _ lt1)
       have g0:=qh y0
       have g1:=qh y1
       have g2:=qh x0
       clear x0 x1 x2 x3 x4 y0 y1 y2 y3 y4 e0 e1 e3 f0 f1 f3
       go_wp2_with fail
       refine ql (by kernel_rfl) (by kernel_rfl) ?_
       repeat (with_reducible refine wpQuiet_step (fun K hK=>?_);go_simp;(try simp only[undef]);first | (with_reducible refine hK _ ?_;clear hK K) | (apply Exists.intro;refine⟨fun _=>?_,hK _ ?_⟩;(first | (fail));clear hK K) | (with_reducible refine⟨fun _ h=>(by cases h),?_⟩;with_reducible refine hK _ ?_;clear hK K))
       refine wpQuiet_nil ?_
       (try simp only[show Value.tuple #[]=undef from rfl])
       intro W2 hW2
       have xB:Below W.heap.size W W2:=by obtain⟨g,rfl⟩:=hW2;exact qC _ g
       clear hW2
       have xQ:=Lib.hid (HBW.out.trans (xB.mono HBW.out.size))
       clear xB
       go_wp2_with fail
       go_roundw
       case rel=>exact⟨j+1,by omega,by go_num,kG.out,xQ.out⟩
       case measure=>simp[intOf];omega
   ·obtain rfl:j=l.length:=by omega
    have hres:zn.vo (qw qf) (zn.qE l) (zn.zt l) l[k]=qF l[k].owner qf:=zn.bad5_miss HAP.out hk H39.out HN.out (fun j hj=>hno j hj hj)
    obtain⟨x0',_⟩:=HX.out.keep (hB.block _ lt1)
    have HBE:=Lib.hid (HB1.out.trans (hB.mono hs1))
    have HNO:=Lib.hid hno;have HB:=Lib.hid hB;have zA:=Lib.hid hres
    clear hno hB hres
    go_wp2_with fail
    refine(yn _ _ hso Vf _).mono ?_
    rintro e w2 ⟨rfl,hB2⟩
    have HB2:=Lib.hid (HBE.out.trans (hB2.mono HBE.out.size))
    clear hB2
    go_wp2_with fail
    go_ret
    exact⟨qI zA.out.symm,HB2.out⟩
 ·have b39:(l[k].typ != 39)=true:=by rw[bne_iff_ne];exact h39
  have hres:zn.vo (qw qf) (zn.qE l) (zn.zt l) l[k]=false:=zn.bad5_other h39
  have H39:=Lib.hid h39;have zA:=Lib.hid hres
  clear h39 hres
  go_enter Tryz.func81,Tryz.ntmps81
  go_wp2_with fail
  go_ret
  exact⟨qI zA.out.symm,by rw[← HW1.out];exact HB1.out⟩
end Go.Proofs.YtpcmilhjpmlbpaaGreatDoor
