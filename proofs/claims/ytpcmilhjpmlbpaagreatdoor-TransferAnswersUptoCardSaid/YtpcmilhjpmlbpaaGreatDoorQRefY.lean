import Derived.Test.YtpcmilhjpmlbpaaGreatDoorQRefV
set_option maxRecDepth 100000
set_option maxHeartbeats 4000000
namespace Go.Proofs.YtpcmilhjpmlbpaaGreatDoor
open Go.RowKit Go.Shelf nm od
theorem rbreaks_9 (qg:ByteArray)(hap:qo qg=true)(l:List Rec)(k:Nat)(hk:k<l.length)(hl:l.length≤2000)(hn:zn.jN l)(v:Value)(w:World)(hrv:qm w v l):
 Calls Tryz.prog 81 #[.int .i64 9,.string qg,v,.int .i64 k] w fun e w'=>e= .returned (.bool (zn.xu (qx qg) (zn.qI l) (zn.zx l) l[k]))∧Below w.heap.size w w':=by
 have Xm:qg.size≤1099511627776:=by have:=qU hap;omega
 have hsz:∀r∈l,r.owner.size≤1099511627776:=fun r hr=>by have:=qU (hn r hr);omega
 obtain⟨b,off,cap,rfl,hcap⟩:=uI hrv hk;obtain⟨hb,c0,c1,c2,c3,c4⟩:=qL hrv hk;have hki:(k:Int)<(l.length:Int):=by omega
 obtain⟨w1,hw1⟩:∃W,W=w.alloc (.cells (recC l[k]).toArray 80):=⟨_,rfl⟩;obtain⟨hB1,hz1,hx⟩:=qY w w1 l[k] hw1;have xJ:=hrv.below hB1;have lt1:w.heap.size<w1.heap.size:=by omega
 have hso:=hsz l[k] (List.getElem_mem hk);obtain⟨x0,x1,x2,x3,x4⟩:=id hx;have HW1:=qe hw1;have HB1:=qe hB1;have HZ1:=qe hz1;have HX:=qe hx;have HRV:=qe hrv;have ZU:=qe xJ;have HSZ:=qe hsz;clear hw1 hB1 hz1 hx hrv xJ hsz;have hs1:=HB1.out.size;by_cases h39:l[k].typ=39
 ·have b39:(l[k].typ != 39)=false:=by rw[h39];rfl
  have HN:=qe hn;have H39:=qe h39;have HAP:=qe hap;clear hn h39 hap
  go_enter Tryz.func81,Tryz.ntmps81
  go_wp2_with fail;rw[← HW1.out];clear c0 c1 c2 c3 c4 x1 x2 x3 x4
  go_loopw [155,13,14] (fun jv _ _ wr=>∃j:Nat,j≤l.length∧jv= .int .i64 (j:Int)∧(∀i (hi:i<l.length),i<j→zn.Vu k i l[k] l[i]=false)∧Below w1.heap.size w1 wr) (fun jv _ _ _=>l.length-(intOf jv).toNat)
  case atStart=>exact⟨0,Nat.zero_le _,rfl,(fun i hi h=>by omega),Below.refl _ _⟩
  case round=>
   obtain⟨j,hj,rfl,hno,hB⟩:=hrel;by_cases hjl:j<l.length
   ·have hji:(j:Int)<(l.length:Int):=by omega
    obtain⟨hb',ra⟩:=qL ZU.out hjl;obtain⟨y0,y1,y2,y3,y4⟩:=ra.keep (hB.block _ hb');obtain⟨x0,x1,x2,x3,x4⟩:=HX.out.keep (hB.block _ lt1);have e0:=qf y0;have e1:=qf y1;have e3:=qf y3;have f0:=qf x0;have f1:=qf x1;have f3:=qf x3;have sj:=HSZ.out _ (List.getElem_mem hjl);have hsr:=hB.size;clear x0 x1 x2 x3 x4 y0 y1 y2 y3 y4;have hnx:zn.Vu k j l[k] l[j]=false→∀i (hi:i<l.length),i<j+1→zn.Vu k i l[k] l[i]=false:=fun h9 i hi h=>by
     rcases Nat.lt_or_ge i j with h' | h'
     ·exact hno i hi h'
     ·obtain rfl:i=j:=by omega
      exact h9
    cases he:qF l[j].owner l[k].owner
    ·have CE:Hid (∀g,Calls Tryz.prog 55 #[.string l[j].owner,.string l[k].owner] (gw wr g) fun e w''=>e= .returned (.bool false)∧∃g',w''=gw wr g'):=qe fun g=>qV (by rw[← he];exact zV _ _ sj hso _)
     cases hwi:zB l[j].owner l[k].owner
     ·have yR:=hnx (by unfold zn.Vu;rw[he,hwi];simp);by_cases hjk:j=k
      ·have bj:((j:Int) != (k:Int))=false:=by rw[hjk];simp
       have CW:Hid (∀(W:World) g,Calls Tryz.prog 131 #[.string l[j].owner,.string l[k].owner] (gw W g) fun e w''=>e= .returned (.bool false)∧∃g',w''=gw W g'):=qe fun W g=>qV (by rw[← hwi];exact Qg _ _ sj hso _);have HNO:=qe hno;have HB:=qe hB;have uk:=qe yR;have HE:=qe he;have HJK:=qe hjk;have HWI:=qe hwi;clear hno hB yR he hjk hwi;clear hnx;go_wp2_with fail;refine ql (by kernel_rfl) (by kernel_rfl) ?_
       repeat (with_reducible refine wpQuiet_step (fun K hK=>?_);go_simp;(try simp only[undef]);first | (with_reducible refine hK _ ?_;clear hK K) | (apply Exists.intro;refine⟨fun _=>?_,hK _ ?_⟩;(first | (go_at_call 55;with_reducible exact CE.out _));clear hK K) | (with_reducible refine⟨fun _ h=>(by cases h),?_⟩;with_reducible refine hK _ ?_;clear hK K))
       refine wpQuiet_nil ?_
       (try simp only[show Value.tuple #[]=undef from rfl])
       intro W hW;have hBW:Below wr.heap.size wr W:=by obtain⟨g,rfl⟩:=hW;exact qB _ g
       clear hW;have HBW:=qe (HB.out.trans (hBW.mono hsr));clear hBW;obtain⟨y0,y1,y2,y3,y4⟩:=(qL ZU.out hjl).2.keep (HBW.out.block _ hb');obtain⟨x0,x1,x2,x3,x4⟩:=HX.out.keep (HBW.out.block _ lt1);have g0:=qf y0;have g1:=qf y1;have g2:=qf x0;clear x0 x1 x2 x3 x4 y0 y1 y2 y3 y4 e0 e1 e3 f0 f1 f3;go_wp2_with fail;refine ql (by kernel_rfl) (by kernel_rfl) ?_
       repeat (with_reducible refine wpQuiet_step (fun K hK=>?_);go_simp;(try simp only[undef]);first | (with_reducible refine hK _ ?_;clear hK K) | (apply Exists.intro;refine⟨fun _=>?_,hK _ ?_⟩;(first | (go_at_call 131;with_reducible exact CW.out _ _));clear hK K) | (with_reducible refine⟨fun _ h=>(by cases h),?_⟩;with_reducible refine hK _ ?_;clear hK K))
       refine wpQuiet_nil ?_
       (try simp only[show Value.tuple #[]=undef from rfl])
       intro W2 hW2;have Qj:Below W.heap.size W W2:=by obtain⟨g,rfl⟩:=hW2;exact qB _ g
       clear hW2;have Zk:=qe (HBW.out.trans (Qj.mono HBW.out.size));clear Qj;go_wp2_with fail
       go_roundw
       case rel=>exact⟨j+1,by omega,by go_num,uk.out,Zk.out⟩
       case measure=>simp[intOf];omega
      ·have bj:((j:Int) != (k:Int))=true:=by rw[bne_iff_ne];omega
       have CW:Hid (∀(W:World) g,Calls Tryz.prog 131 #[.string l[j].owner,.string l[k].owner] (gw W g) fun e w''=>e= .returned (.bool false)∧∃g',w''=gw W g'):=qe fun W g=>qV (by rw[← hwi];exact Qg _ _ sj hso _);have HNO:=qe hno;have HB:=qe hB;have uk:=qe yR;have HE:=qe he;have HJK:=qe hjk;have HWI:=qe hwi;clear hno hB yR he hjk hwi;clear hnx;go_wp2_with fail;refine ql (by kernel_rfl) (by kernel_rfl) ?_
       repeat (with_reducible refine wpQuiet_step (fun K hK=>?_);go_simp;(try simp only[undef]);first | (with_reducible refine hK _ ?_;clear hK K) | (apply Exists.intro;refine⟨fun _=>?_,hK _ ?_⟩;(first | (go_at_call 55;with_reducible exact CE.out _));clear hK K) | (with_reducible refine⟨fun _ h=>(by cases h),?_⟩;with_reducible refine hK _ ?_;clear hK K))
       refine wpQuiet_nil ?_
       (try simp only[show Value.tuple #[]=undef from rfl])
       intro W hW;have hBW:Below wr.heap.size wr W:=by obtain⟨g,rfl⟩:=hW;exact qB _ g
       clear hW;have HBW:=qe (HB.out.trans (hBW.mono hsr));clear hBW;obtain⟨y0,y1,y2,y3,y4⟩:=(qL ZU.out hjl).2.keep (HBW.out.block _ hb');obtain⟨x0,x1,x2,x3,x4⟩:=HX.out.keep (HBW.out.block _ lt1);have g0:=qf y0;have g1:=qf y1;have g2:=qf x0;clear x0 x1 x2 x3 x4 y0 y1 y2 y3 y4 e0 e1 e3 f0 f1 f3;go_wp2_with fail;refine ql (by kernel_rfl) (by kernel_rfl) ?_
       repeat (with_reducible refine wpQuiet_step (fun K hK=>?_);go_simp;(try simp only[undef]);first | (with_reducible refine hK _ ?_;clear hK K) | (apply Exists.intro;refine⟨fun _=>?_,hK _ ?_⟩;(first | (go_at_call 131;with_reducible exact CW.out _ _));clear hK K) | (with_reducible refine⟨fun _ h=>(by cases h),?_⟩;with_reducible refine hK _ ?_;clear hK K))
       refine wpQuiet_nil ?_
       (try simp only[show Value.tuple #[]=undef from rfl])
       intro W2 hW2;have Qj:Below W.heap.size W W2:=by obtain⟨g,rfl⟩:=hW2;exact qB _ g
       clear hW2;have Zk:=qe (HBW.out.trans (Qj.mono HBW.out.size));clear Qj;go_wp2_with fail
       go_roundw
       case rel=>exact⟨j+1,by omega,by go_num,uk.out,Zk.out⟩
       case measure=>simp[intOf];omega
     ·have hres:zn.xu (qx qg) (zn.qI l) (zn.zx l) l[k]=true:=zn.bad5_hit hk hjl H39.out HN.out (by unfold zn.Vu;rw[he,hwi];simp);by_cases hjk:j=k
      ·have bj:((j:Int) != (k:Int))=false:=by rw[hjk];simp
       have yR:True:=trivial;have CW:Hid (∀(W:World) g,Calls Tryz.prog 131 #[.string l[j].owner,.string l[k].owner] (gw W g) fun e w''=>e= .returned (.bool true)∧∃g',w''=gw W g'):=qe fun W g=>qV (by rw[← hwi];exact Qg _ _ sj hso _);have HNO:=qe hno;have HB:=qe hB;have uk:=qe yR;have HE:=qe he;have HJK:=qe hjk;have HWI:=qe hwi;clear hno hB yR he hjk hwi;clear hnx;go_wp2_with fail;refine ql (by kernel_rfl) (by kernel_rfl) ?_
       repeat (with_reducible refine wpQuiet_step (fun K hK=>?_);go_simp;(try simp only[undef]);first | (with_reducible refine hK _ ?_;clear hK K) | (apply Exists.intro;refine⟨fun _=>?_,hK _ ?_⟩;(first | (go_at_call 55;with_reducible exact CE.out _));clear hK K) | (with_reducible refine⟨fun _ h=>(by cases h),?_⟩;with_reducible refine hK _ ?_;clear hK K))
       refine wpQuiet_nil ?_
       (try simp only[show Value.tuple #[]=undef from rfl])
       intro W hW;have hBW:Below wr.heap.size wr W:=by obtain⟨g,rfl⟩:=hW;exact qB _ g
       clear hW;have HBW:=qe (HB.out.trans (hBW.mono hsr));clear hBW;obtain⟨y0,y1,y2,y3,y4⟩:=(qL ZU.out hjl).2.keep (HBW.out.block _ hb');obtain⟨x0,x1,x2,x3,x4⟩:=HX.out.keep (HBW.out.block _ lt1);have g0:=qf y0;have g1:=qf y1;have g2:=qf x0;clear x0 x1 x2 x3 x4 y0 y1 y2 y3 y4 e0 e1 e3 f0 f1 f3;go_wp2_with fail;refine ql (by kernel_rfl) (by kernel_rfl) ?_
       repeat (with_reducible refine wpQuiet_step (fun K hK=>?_);go_simp;(try simp only[undef]);first | (with_reducible refine hK _ ?_;clear hK K) | (apply Exists.intro;refine⟨fun _=>?_,hK _ ?_⟩;(first | (go_at_call 131;with_reducible exact CW.out _ _));clear hK K) | (with_reducible refine⟨fun _ h=>(by cases h),?_⟩;with_reducible refine hK _ ?_;clear hK K))
       refine wpQuiet_nil ?_
       (try simp only[show Value.tuple #[]=undef from rfl])
       intro W2 hW2;have Qj:Below W.heap.size W W2:=by obtain⟨g,rfl⟩:=hW2;exact qB _ g
       clear hW2;have Zk:=qe (HB1.out.trans ((HBW.out.trans (Qj.mono HBW.out.size)).mono hs1));clear Qj;have zH:=qe hres;clear hres;go_wp2_with fail;go_ret;exact⟨qH zH.out.symm,Zk.out⟩
      ·have bj:((j:Int) != (k:Int))=true:=by rw[bne_iff_ne];omega
       have yR:True:=trivial;have CW:Hid (∀(W:World) g,Calls Tryz.prog 131 #[.string l[j].owner,.string l[k].owner] (gw W g) fun e w''=>e= .returned (.bool true)∧∃g',w''=gw W g'):=qe fun W g=>qV (by rw[← hwi];exact Qg _ _ sj hso _);have HNO:=qe hno;have HB:=qe hB;have uk:=qe yR;have HE:=qe he;have HJK:=qe hjk;have HWI:=qe hwi;clear hno hB yR he hjk hwi;clear hnx;go_wp2_with fail;refine ql (by kernel_rfl) (by kernel_rfl) ?_
       repeat (with_reducible refine wpQuiet_step (fun K hK=>?_);go_simp;(try simp only[undef]);first | (with_reducible refine hK _ ?_;clear hK K) | (apply Exists.intro;refine⟨fun _=>?_,hK _ ?_⟩;(first | (go_at_call 55;with_reducible exact CE.out _));clear hK K) | (with_reducible refine⟨fun _ h=>(by cases h),?_⟩;with_reducible refine hK _ ?_;clear hK K))
       refine wpQuiet_nil ?_
       (try simp only[show Value.tuple #[]=undef from rfl])
       intro W hW;have hBW:Below wr.heap.size wr W:=by obtain⟨g,rfl⟩:=hW;exact qB _ g
       clear hW;have HBW:=qe (HB.out.trans (hBW.mono hsr));clear hBW;obtain⟨y0,y1,y2,y3,y4⟩:=(qL ZU.out hjl).2.keep (HBW.out.block _ hb');obtain⟨x0,x1,x2,x3,x4⟩:=HX.out.keep (HBW.out.block _ lt1);have g0:=qf y0;have g1:=qf y1;have g2:=qf x0;clear x0 x1 x2 x3 x4 y0 y1 y2 y3 y4 e0 e1 e3 f0 f1 f3;go_wp2_with fail;refine ql (by kernel_rfl) (by kernel_rfl) ?_
       repeat (with_reducible refine wpQuiet_step (fun K hK=>?_);go_simp;(try simp only[undef]);first | (with_reducible refine hK _ ?_;clear hK K) | (apply Exists.intro;refine⟨fun _=>?_,hK _ ?_⟩;(first | (go_at_call 131;with_reducible exact CW.out _ _));clear hK K) | (with_reducible refine⟨fun _ h=>(by cases h),?_⟩;with_reducible refine hK _ ?_;clear hK K))
       refine wpQuiet_nil ?_
       (try simp only[show Value.tuple #[]=undef from rfl])
       intro W2 hW2;have Qj:Below W.heap.size W W2:=by obtain⟨g,rfl⟩:=hW2;exact qB _ g
       clear hW2;have Zk:=qe (HB1.out.trans ((HBW.out.trans (Qj.mono HBW.out.size)).mono hs1));clear Qj;have zH:=qe hres;clear hres;go_wp2_with fail;go_ret;exact⟨qH zH.out.symm,Zk.out⟩
    ·have CE:Hid (∀g,Calls Tryz.prog 55 #[.string l[j].owner,.string l[k].owner] (gw wr g) fun e w''=>e= .returned (.bool true)∧∃g',w''=gw wr g'):=qe fun g=>qV (by rw[← he];exact zV _ _ sj hso _);by_cases hjk:j=k
     ·have bj:((j:Int) != (k:Int))=false:=by rw[hjk];simp
      have yR:=hnx (by unfold zn.Vu;rw[he,decide_eq_false (show ¬j≠k from fun h=>h hjk)];simp);have HNO:=qe hno;have HB:=qe hB;have uk:=qe yR;have HE:=qe he;have HJK:=qe hjk;clear hno hB yR he hjk;clear hnx;go_wp2_with fail;refine ql (by kernel_rfl) (by kernel_rfl) ?_
      repeat (with_reducible refine wpQuiet_step (fun K hK=>?_);go_simp;(try simp only[undef]);first | (with_reducible refine hK _ ?_;clear hK K) | (apply Exists.intro;refine⟨fun _=>?_,hK _ ?_⟩;(first | (go_at_call 55;with_reducible exact CE.out _));clear hK K) | (with_reducible refine⟨fun _ h=>(by cases h),?_⟩;with_reducible refine hK _ ?_;clear hK K))
      refine wpQuiet_nil ?_
      (try simp only[show Value.tuple #[]=undef from rfl])
      intro W hW;have hBW:Below wr.heap.size wr W:=by obtain⟨g,rfl⟩:=hW;exact qB _ g
      clear hW;have HBW:=qe (HB.out.trans (hBW.mono hsr));clear hBW;obtain⟨y0,y1,y2,y3,y4⟩:=(qL ZU.out hjl).2.keep (HBW.out.block _ hb');obtain⟨x0,x1,x2,x3,x4⟩:=HX.out.keep (HBW.out.block _ lt1);have g0:=qf y0;have g1:=qf y1;have g2:=qf x0;clear x0 x1 x2 x3 x4 y0 y1 y2 y3 y4 e0 e1 e3 f0 f1 f3;go_wp2_with fail;refine ql (by kernel_rfl) (by kernel_rfl) ?_
      repeat (with_reducible refine wpQuiet_step (fun K hK=>?_);go_simp;(try simp only[undef]);first | (with_reducible refine hK _ ?_;clear hK K) | (apply Exists.intro;refine⟨fun _=>?_,hK _ ?_⟩;(first | (fail));clear hK K) | (with_reducible refine⟨fun _ h=>(by cases h),?_⟩;with_reducible refine hK _ ?_;clear hK K))
      refine wpQuiet_nil ?_
      (try simp only[show Value.tuple #[]=undef from rfl])
      intro W2 hW2;have Qj:Below W.heap.size W W2:=by obtain⟨g,rfl⟩:=hW2;exact qB _ g
      clear hW2;have Zk:=qe (HBW.out.trans (Qj.mono HBW.out.size));clear Qj;go_wp2_with fail
      go_roundw
      case rel=>exact⟨j+1,by omega,by go_num,uk.out,Zk.out⟩
      case measure=>simp[intOf];omega
     ·have bj:((j:Int) != (k:Int))=true:=by rw[bne_iff_ne];omega
      by_cases t39:l[j].typ=39
      ·have bt:(l[j].typ == 39)=true:=by rw[beq_iff_eq];exact t39
       have hres:zn.xu (qx qg) (zn.qI l) (zn.zx l) l[k]=true:=zn.bad5_hit hk hjl H39.out HN.out (by unfold zn.Vu;rw[he,decide_eq_true hjk,decide_eq_true t39];simp);have yR:True:=trivial;have T39:=qe t39;clear t39;have HNO:=qe hno;have HB:=qe hB;have uk:=qe yR;have HE:=qe he;have HJK:=qe hjk;clear hno hB yR he hjk;clear hnx;go_wp2_with fail;refine ql (by kernel_rfl) (by kernel_rfl) ?_
       repeat (with_reducible refine wpQuiet_step (fun K hK=>?_);go_simp;(try simp only[undef]);first | (with_reducible refine hK _ ?_;clear hK K) | (apply Exists.intro;refine⟨fun _=>?_,hK _ ?_⟩;(first | (go_at_call 55;with_reducible exact CE.out _));clear hK K) | (with_reducible refine⟨fun _ h=>(by cases h),?_⟩;with_reducible refine hK _ ?_;clear hK K))
       refine wpQuiet_nil ?_
       (try simp only[show Value.tuple #[]=undef from rfl])
       intro W hW;have hBW:Below wr.heap.size wr W:=by obtain⟨g,rfl⟩:=hW;exact qB _ g
       clear hW;have HBW:=qe (HB.out.trans (hBW.mono hsr));clear hBW;obtain⟨y0,y1,y2,y3,y4⟩:=(qL ZU.out hjl).2.keep (HBW.out.block _ hb');obtain⟨x0,x1,x2,x3,x4⟩:=HX.out.keep (HBW.out.block _ lt1);have g0:=qf y0;have g1:=qf y1;have g2:=qf x0;clear x0 x1 x2 x3 x4 y0 y1 y2 y3 y4 e0 e1 e3 f0 f1 f3;go_wp2_with fail;refine ql (by kernel_rfl) (by kernel_rfl) ?_
       repeat (with_reducible refine wpQuiet_step (fun K hK=>?_);go_simp;(try simp only[undef]);first | (with_reducible refine hK _ ?_;clear hK K) | (apply Exists.intro;refine⟨fun _=>?_,hK _ ?_⟩;(first | (fail));clear hK K) | (with_reducible refine⟨fun _ h=>(by cases h),?_⟩;with_reducible refine hK _ ?_;clear hK K))
       refine wpQuiet_nil ?_
       (try simp only[show Value.tuple #[]=undef from rfl])
       intro W2 hW2;have Qj:Below W.heap.size W W2:=by obtain⟨g,rfl⟩:=hW2;exact qB _ g
       clear hW2;have Zk:=qe (HB1.out.trans ((HBW.out.trans (Qj.mono HBW.out.size)).mono hs1));clear Qj;have zH:=qe hres;clear hres;go_wp2_with fail;go_ret;exact⟨qH zH.out.symm,Zk.out⟩
      ·have bt:(l[j].typ == 39)=false:=by rw[beq_eq_false_iff_ne];exact t39
       have yR:=hnx (by unfold zn.Vu;rw[he,decide_eq_false t39];simp);have T39:=qe t39;clear t39;have HNO:=qe hno;have HB:=qe hB;have uk:=qe yR;have HE:=qe he;have HJK:=qe hjk;clear hno hB yR he hjk;clear hnx;go_wp2_with fail;refine ql (by kernel_rfl) (by kernel_rfl) ?_
       repeat (with_reducible refine wpQuiet_step (fun K hK=>?_);go_simp;(try simp only[undef]);first | (with_reducible refine hK _ ?_;clear hK K) | (apply Exists.intro;refine⟨fun _=>?_,hK _ ?_⟩;(first | (go_at_call 55;with_reducible exact CE.out _));clear hK K) | (with_reducible refine⟨fun _ h=>(by cases h),?_⟩;with_reducible refine hK _ ?_;clear hK K))
       refine wpQuiet_nil ?_
       (try simp only[show Value.tuple #[]=undef from rfl])
       intro W hW;have hBW:Below wr.heap.size wr W:=by obtain⟨g,rfl⟩:=hW;exact qB _ g
       clear hW;have HBW:=qe (HB.out.trans (hBW.mono hsr));clear hBW;obtain⟨y0,y1,y2,y3,y4⟩:=(qL ZU.out hjl).2.keep (HBW.out.block _ hb');obtain⟨x0,x1,x2,x3,x4⟩:=HX.out.keep (HBW.out.block _ lt1);have g0:=qf y0;have g1:=qf y1;have g2:=qf x0;clear x0 x1 x2 x3 x4 y0 y1 y2 y3 y4 e0 e1 e3 f0 f1 f3;go_wp2_with fail;refine ql (by kernel_rfl) (by kernel_rfl) ?_
       repeat (with_reducible refine wpQuiet_step (fun K hK=>?_);go_simp;(try simp only[undef]);first | (with_reducible refine hK _ ?_;clear hK K) | (apply Exists.intro;refine⟨fun _=>?_,hK _ ?_⟩;(first | (fail));clear hK K) | (with_reducible refine⟨fun _ h=>(by cases h),?_⟩;with_reducible refine hK _ ?_;clear hK K))
       refine wpQuiet_nil ?_
       (try simp only[show Value.tuple #[]=undef from rfl])
       intro W2 hW2;have Qj:Below W.heap.size W W2:=by obtain⟨g,rfl⟩:=hW2;exact qB _ g
       clear hW2;have Zk:=qe (HBW.out.trans (Qj.mono HBW.out.size));clear Qj;go_wp2_with fail
       go_roundw
       case rel=>exact⟨j+1,by omega,by go_num,uk.out,Zk.out⟩
       case measure=>simp[intOf];omega
   ·obtain rfl:j=l.length:=by omega
    have hres:zn.xu (qx qg) (zn.qI l) (zn.zx l) l[k]=qF l[k].owner qg:=zn.bad5_miss HAP.out hk H39.out HN.out (fun j hj=>hno j hj hj);obtain⟨x0',_⟩:=HX.out.keep (hB.block _ lt1);have HBE:=qe (HB1.out.trans (hB.mono hs1));have HNO:=qe hno;have HB:=qe hB;have zH:=qe hres;clear hno hB hres;go_wp2_with fail;refine(zV _ _ hso Xm _).mono ?_;rintro e w2 ⟨rfl,hB2⟩;have HB2:=qe (HBE.out.trans (hB2.mono HBE.out.size));clear hB2;go_wp2_with fail;go_ret;exact⟨qH zH.out.symm,HB2.out⟩
 ·have b39:(l[k].typ != 39)=true:=by rw[bne_iff_ne];exact h39
  have hres:zn.xu (qx qg) (zn.qI l) (zn.zx l) l[k]=false:=zn.bad5_other h39;have H39:=qe h39;have zH:=qe hres;clear h39 hres
  go_enter Tryz.func81,Tryz.ntmps81
  go_wp2_with fail;go_ret;exact⟨qH zH.out.symm,by rw[← HW1.out];exact HB1.out⟩
theorem rbreaks_10 (qg:ByteArray)(l:List Rec)(k:Nat)(hk:k<l.length)(hl:l.length≤2000)(hn:zn.jN l)(v:Value)(w:World)(hrv:qm w v l):
 Calls Tryz.prog 81 #[.int .i64 10,.string qg,v,.int .i64 k] w fun e w'=>e= .returned (.bool (zn.QK (zn.qI l) l[k]))∧Below w.heap.size w w':=by
 have hsz:∀r∈l,r.owner.size≤1099511627776:=fun r hr=>by have:=qU (hn r hr);omega
 obtain⟨b,off,cap,rfl,hcap⟩:=uI hrv hk;obtain⟨hb,c0,c1,c2,c3,c4⟩:=qL hrv hk;have hki:(k:Int)<(l.length:Int):=by omega
 obtain⟨w1,hw1⟩:∃W,W=w.alloc (.cells (recC l[k]).toArray 80):=⟨_,rfl⟩;obtain⟨hB1,hz1,hx⟩:=qY w w1 l[k] hw1;have xJ:=hrv.below hB1;have lt1:w.heap.size<w1.heap.size:=by omega
 have hso:=hsz l[k] (List.getElem_mem hk);obtain⟨x0,x1,x2,x3,x4⟩:=id hx;have HW1:=qe hw1;have HB1:=qe hB1;have HZ1:=qe hz1;have HX:=qe hx;have HRV:=qe hrv;have ZU:=qe xJ;have HSZ:=qe hsz;clear hw1 hB1 hz1 hx hrv xJ hsz;have hs1:=HB1.out.size;have HN:=qe hn;clear hn
 go_enter Tryz.func81,Tryz.ntmps81
 go_wp2_with fail;rw[← HW1.out];clear c0 c1 c2 c3 c4 x0 x1 x2 x3 x4
 go_loopw [15] (fun jv wr=>∃j:Nat,j≤k∧jv= .int .i64 (j:Int)∧(l[k].typ≠46→∀i (hi:i<l.length),i<j→zn.yg l[i]≠zn.yg l[k])∧Below w1.heap.size w1 wr) (fun jv _=>k-(intOf jv).toNat)
 case atStart=>exact⟨0,Nat.zero_le _,rfl,(fun _ i hi h=>by omega),Below.refl _ _⟩
 case round=>
  obtain⟨j,hj,rfl,hno,hB⟩:=hrel;by_cases hlt:j<k
  ·have hjl:j<l.length:=by omega
   have hji:(j:Int)<(l.length:Int):=by omega
   obtain⟨hb',ra⟩:=qL ZU.out hjl;obtain⟨y0,y1,y2,y3,y4⟩:=ra.keep (hB.block _ hb');obtain⟨x0,x1,x2,x3,x4⟩:=HX.out.keep (hB.block _ lt1);have e0:=qf y0;have e1:=qf y1;have e3:=qf y3;have f0:=qf x0;have f1:=qf x1;have f3:=qf x3;have sj:=HSZ.out _ (List.getElem_mem hjl);have hsr:=hB.size;clear x0 x1 x2 x3 x4 y0 y1 y2 y3 y4;have nj:=HN.out _ (List.getElem_mem hjl);have nk:=HN.out _ (List.getElem_mem hk);have hkey:=zn.key_iff nj nk;have hnx:(l[k].typ≠46→zn.yg l[j]≠zn.yg l[k])→l[k].typ≠46→∀i (hi:i<l.length),i<j+1→zn.yg l[i]≠zn.yg l[k]:=fun h9 h46 i hi h=>by
    rcases Nat.lt_or_ge i j with h' | h'
    ·exact hno h46 i hi h'
    ·obtain rfl:i=j:=by omega
     exact h9 h46
   by_cases h46:l[k].typ=46
   ·have b46:(l[k].typ != 46)=false:=by rw[h46];rfl
    have yR:=hnx (fun h=>absurd h46 h);clear nj nk hkey;have H46:=qe h46;have HNO:=qe hno;have HB:=qe hB;have uk:=qe yR;clear h46 hno hB yR;clear hnx;go_wp2_with fail;refine ql (by kernel_rfl) (by kernel_rfl) ?_
    repeat (with_reducible refine wpQuiet_step (fun K hK=>?_);go_simp;(try simp only[undef]);first | (with_reducible refine hK _ ?_;clear hK K) | (apply Exists.intro;refine⟨fun _=>?_,hK _ ?_⟩;(first | (fail));clear hK K) | (with_reducible refine⟨fun _ h=>(by cases h),?_⟩;with_reducible refine hK _ ?_;clear hK K))
    refine wpQuiet_nil ?_
    (try simp only[show Value.tuple #[]=undef from rfl])
    intro W hW;have hBW:Below wr.heap.size wr W:=by obtain⟨g,rfl⟩:=hW;exact qB _ g
    clear hW;have HBW:=qe (HB.out.trans (hBW.mono hsr));clear hBW;go_wp2_with fail
    go_roundw
    case rel=>exact⟨j+1,by omega,by go_num,uk.out,HBW.out⟩
    case measure=>simp[intOf];omega
   ·have b46:(l[k].typ != 46)=true:=by rw[bne_iff_ne];exact h46
    by_cases ht:l[j].typ=l[k].typ
    ·have bt:(l[j].typ == l[k].typ)=true:=by rw[beq_iff_eq];exact ht
     cases he:qF l[j].owner l[k].owner
     ·have yR:=hnx (fun _ h=>by
       have:=(hkey.1 h).2;rw[he]at this
       cases this)
      have CE:Hid (∀g,Calls Tryz.prog 55 #[.string l[j].owner,.string l[k].owner] (gw wr g) fun e w''=>e= .returned (.bool false)∧∃g',w''=gw wr g'):=qe fun g=>qV (by rw[← he];exact zV _ _ sj hso _);clear nj nk hkey;have H46:=qe h46;have HNO:=qe hno;have HB:=qe hB;have uk:=qe yR;have HT:=qe ht;have HE:=qe he;clear h46 hno hB yR ht he;clear hnx;go_wp2_with fail;refine ql (by kernel_rfl) (by kernel_rfl) ?_
      repeat (with_reducible refine wpQuiet_step (fun K hK=>?_);go_simp;(try simp only[undef]);first | (with_reducible refine hK _ ?_;clear hK K) | (apply Exists.intro;refine⟨fun _=>?_,hK _ ?_⟩;(first | (go_at_call 55;with_reducible exact CE.out _));clear hK K) | (with_reducible refine⟨fun _ h=>(by cases h),?_⟩;with_reducible refine hK _ ?_;clear hK K))
      refine wpQuiet_nil ?_
      (try simp only[show Value.tuple #[]=undef from rfl])
      intro W hW;have hBW:Below wr.heap.size wr W:=by obtain⟨g,rfl⟩:=hW;exact qB _ g
      clear hW;have HBW:=qe (HB.out.trans (hBW.mono hsr));clear hBW;go_wp2_with fail
      go_roundw
      case rel=>exact⟨j+1,by omega,by go_num,uk.out,HBW.out⟩
      case measure=>simp[intOf];omega
     ·have hres:zn.QK (zn.qI l) l[k]=decide (l[j].ttl≠l[k].ttl):=zn.bad6_hit hk hjl h46 (hkey.2 ⟨ht,he⟩) (hno h46);have CE:Hid (∀g,Calls Tryz.prog 55 #[.string l[j].owner,.string l[k].owner] (gw wr g) fun e w''=>e= .returned (.bool true)∧∃g',w''=gw wr g'):=qe fun g=>qV (by rw[← he];exact zV _ _ sj hso _);clear nj nk hkey;have H46:=qe h46;have HNO:=qe hno;have HB:=qe hB;have HT:=qe ht;have HE:=qe he;have zH:=qe hres;clear h46 hno hB ht he hres;clear hnx;go_wp2_with fail;refine ql (by kernel_rfl) (by kernel_rfl) ?_
      repeat (with_reducible refine wpQuiet_step (fun K hK=>?_);go_simp;(try simp only[undef]);first | (with_reducible refine hK _ ?_;clear hK K) | (apply Exists.intro;refine⟨fun _=>?_,hK _ ?_⟩;(first | (go_at_call 55;with_reducible exact CE.out _));clear hK K) | (with_reducible refine⟨fun _ h=>(by cases h),?_⟩;with_reducible refine hK _ ?_;clear hK K))
      refine wpQuiet_nil ?_
      (try simp only[show Value.tuple #[]=undef from rfl])
      intro W hW;have hBW:Below wr.heap.size wr W:=by obtain⟨g,rfl⟩:=hW;exact qB _ g
      clear hW;have HBW:=qe (HB.out.trans (hBW.mono hsr));clear hBW;obtain⟨y0,y1,y2,y3,y4⟩:=(qL ZU.out hjl).2.keep (HBW.out.block _ hb');obtain⟨x0,x1,x2,x3,x4⟩:=HX.out.keep (HBW.out.block _ lt1);have g3:=qf y3;have g4:=qf x3;clear x0 x1 x2 x3 x4 y0 y1 y2 y3 y4 e0 e1 e3 f0 f1 f3;go_wp2_with fail;refine ql (by kernel_rfl) (by kernel_rfl) ?_
      repeat (with_reducible refine wpQuiet_step (fun K hK=>?_);go_simp;(try simp only[undef]);first | (with_reducible refine hK _ ?_;clear hK K))
      refine wpQuiet_nil ?_
      (try simp only[show Value.tuple #[]=undef from rfl])
      intro W2 hW2;have Qj:Below W.heap.size W W2:=by obtain⟨g,rfl⟩:=hW2;exact qB _ g
      clear hW2;have Zk:=qe (HB1.out.trans ((HBW.out.trans (Qj.mono HBW.out.size)).mono hs1));clear Qj;go_wp2_with fail;go_ret;exact⟨qH (by rw[zH.out];by_cases h:l[j].ttl=l[k].ttl <;> simp[h]),Zk.out⟩
    ·have bt:(l[j].typ == l[k].typ)=false:=by rw[beq_eq_false_iff_ne];exact ht
     have yR:=hnx (fun _ h=>ht (hkey.1 h).1);clear nj nk hkey;have H46:=qe h46;have HNO:=qe hno;have HB:=qe hB;have uk:=qe yR;have HT:=qe ht;clear h46 hno hB yR ht;clear hnx;go_wp2_with fail;refine ql (by kernel_rfl) (by kernel_rfl) ?_
     repeat (with_reducible refine wpQuiet_step (fun K hK=>?_);go_simp;(try simp only[undef]);first | (with_reducible refine hK _ ?_;clear hK K) | (apply Exists.intro;refine⟨fun _=>?_,hK _ ?_⟩;(first | (fail));clear hK K) | (with_reducible refine⟨fun _ h=>(by cases h),?_⟩;with_reducible refine hK _ ?_;clear hK K))
     refine wpQuiet_nil ?_
     (try simp only[show Value.tuple #[]=undef from rfl])
     intro W hW;have hBW:Below wr.heap.size wr W:=by obtain⟨g,rfl⟩:=hW;exact qB _ g
     clear hW;have HBW:=qe (HB.out.trans (hBW.mono hsr));clear hBW;go_wp2_with fail
     go_roundw
     case rel=>exact⟨j+1,by omega,by go_num,uk.out,HBW.out⟩
     case measure=>simp[intOf];omega
  ·obtain rfl:j=k:=by omega
   have hres:zn.QK (zn.qI l) l[j]=false:=by
    by_cases h46:l[j].typ=46
    ·exact zn.bad6_sig h46
    ·exact zn.bad6_miss hk (hno h46)
   have HBE:=qe (HB1.out.trans (hB.mono hs1));have HNO:=qe hno;have HB:=qe hB;have zH:=qe hres;clear hno hB hres;go_wp2_with fail;go_ret;exact⟨qH zH.out.symm,HBE.out⟩
namespace zn
def QA (qg:ByteArray)(l:List Rec)(r k:Nat):Bool:=
 if r=2 then atB l jV k else if r=3 then atB l (fun x=>!zB x.owner qg) k else if r=4 then jQ l k else if r=5 then Qf qg l k
 else if r=6 then false else if r=7 then atB l Zd k else if r=8 then atB l (Yt (kX l)) k else if r=9 then atB l (xu (qx qg) (qI l) (zx l)) k else atB l (QK (qI l)) k
def codeR (r:Nat):Int:=if r=2 then 8 else if r=3 then 5 else if r=4 then 19 else if r=5 then 15 else if r=7 then 22 else if r=8 then 17 else if r=9 then 18 else if r=10 then 21 else 0
def xm (qg:ByteArray)(l:List Rec):Nat→Nat→Option (Int×Int)
 | 0,_=>none
 | f+1,r=>match zm (QA qg l r) l.length with
   | some k=>some (k,codeR r)
   | none=>if r=5∧hasB l qg 6=false then some (-1,15) else if r=6∧hasB l qg 2=false then some (-1,16) else xm qg l f (r+1)
theorem has_rows {l:List Rec}{n:ByteArray}(hn:jN l)(hc:qo n=true)(t:Int):hasB l n t=true↔qI l (qx n,t)≠[]:=by
 unfold hasB;rw[List.any_eq_true];constructor
 ·rintro⟨r,hr,h⟩ e;simp only[Bool.and_eq_true,decide_eq_true_eq]at h;have:=(zM (hn r hr) hc).1 h.2;have hm:r∈qI l (qx n,t):=ko.2 ⟨hr,by unfold yg;rw[this,h.1]⟩;rw[e]at hm;simp at hm
 ·intro h;obtain⟨r,hr⟩:=List.exists_mem_of_ne_nil _ h;obtain⟨h1,h2⟩:=ko.1 hr;unfold yg at h2;simp only[Prod.mk.injEq]at h2;exact⟨r,h1,by rw[decide_eq_true h2.2,(zM (hn r h1) hc).2 h2.1];rfl⟩
theorem has_soa {l:List Rec}{qg:ByteArray}(h:zm (Qf qg l) l.length=none):hasB l qg 6=false↔Qe l=0:=by
 rw[JJ,Bool.eq_false_iff];unfold hasB;rw[ne_eq,List.any_eq_true];constructor
 ·intro hh r hr h6;exact hh ⟨r,hr,by rw[decide_eq_true h6,(Zv.1 h).2 r hr h6];rfl⟩
 ·rintro hh ⟨r,hr,h2⟩;simp only[Bool.and_eq_true,decide_eq_true_eq]at h2;exact hh r hr h2.1
theorem firstB_false (n:Nat):zm (fun _=>false) n=none:=vR fun _ _=>rfl
theorem kH {qg:ByteArray}{l:List Rec}{f r k:Nat}(h:zm (QA qg l r) l.length=some k):xm qg l (f+1) r=some ((k:Int),codeR r):=by
 rw[xm,h]
theorem jU {qg:ByteArray}{l:List Rec}{f r:Nat}(h:zm (QA qg l r) l.length=none):xm qg l (f+1) r=if r=5∧hasB l qg 6=false then some (-1,15) else if r=6∧hasB l qg 2=false then some (-1,16) else xm qg l f (r+1):=by
 rw[xm,h]
theorem chain_newE {qg:ByteArray}{l:List Rec}(hc:qo qg=true)(hl:¬2000<l.length):yO qg l=xm qg l 9 2:=by
 have e2:QA qg l 2=atB l jV:=rfl;have e3:QA qg l 3=atB l (fun x=>!zB x.owner qg):=rfl;have e4:QA qg l 4=jQ l:=rfl;have e5:QA qg l 5=Qf qg l:=rfl;have e6:QA qg l 6=fun _=>false:=rfl;have e7:QA qg l 7=atB l Zd:=rfl;have e8:QA qg l 8=atB l (Yt (kX l)):=rfl;have e9:QA qg l 9=atB l (xu (qx qg) (qI l) (zx l)):=rfl;have e10:QA qg l 10=atB l (QK (qI l)):=rfl;unfold yO;rw[if_neg (by rw[hc];simp),if_neg hl];unfold kg
 cases h2:zm (atB l jV) l.length with
 | some k=>rw[kH (f:=8) (r:=2) (by rw[e2];exact h2)];rfl
 | none=>
   have hn:jN l:=fun r hr=>by
    have:=vw.1 h2 r hr;unfold jV at this
    cases hh:qo r.owner
    ·rw[hh]at this;simp at this
    ·rfl
   rw[jU (f:=8) (r:=2) (by rw[e2];exact h2)];simp only[show ¬(2=5∧hasB l qg 6=false) from fun h=>by omega,show ¬(2=6∧hasB l qg 2=false) from fun h=>by omega,if_false]
   cases h3:zm (atB l fun r=>!zB r.owner qg) l.length with
   | some k=>rw[kH (f:=7) (r:=3) (by rw[e3];exact h3)];rfl
   | none=>
     rw[jU (f:=7) (r:=3) (by rw[e3];exact h3)];simp only[show ¬(3=5∧hasB l qg 6=false) from fun h=>by omega,show ¬(3=6∧hasB l qg 2=false) from fun h=>by omega,if_false];unfold zU
     cases h4:zm (jQ l) l.length with
     | some k=>rw[kH (f:=6) (r:=4) (by rw[e4];exact h4)];rfl
     | none=>
       rw[jU (f:=6) (r:=4) (by rw[e4];exact h4)];simp only[show ¬(4=5∧hasB l qg 6=false) from fun h=>by omega,show ¬(4=6∧hasB l qg 2=false) from fun h=>by omega,if_false]
       cases h5:zm (Qf qg l) l.length with
       | some k=>rw[kH (f:=5) (r:=5) (by rw[e5];exact h5)];rfl
       | none=>
         rw[jU (f:=5) (r:=5) (by rw[e5];exact h5)];simp only;by_cases s0:Qe l=0
         ·rw[if_pos s0,if_pos ⟨by trivial,(has_soa h5).2 s0⟩]
         ·have q56:¬(5=6∧hasB l qg 2=false):=fun h=>by omega
          have q65:¬(6=5∧hasB l qg 6=false):=fun h=>by omega
          have q5:¬(True∧hasB l qg 6=false):=fun h=>s0 ((has_soa h5).1 h.2);rw[if_neg s0,if_neg q5,if_neg q56,jU (f:=4) (r:=6) (by rw[e6];exact firstB_false _),if_neg q65];by_cases n0:(qI l (qx qg,2)).length=0
          ·have:hasB l qg 2=false:=by
            rw[Bool.eq_false_iff];intro h;exact(has_rows hn hc 2).1 h (List.eq_nil_of_length_eq_zero n0)
           rw[if_pos n0,if_pos ⟨by trivial,this⟩]
          ·have:¬hasB l qg 2=false:=by
            intro h;have h2:=(has_rows hn hc 2).2 (fun e=>n0 (by rw[e];rfl));rw[h]at h2
            cases h2
           rw[if_neg n0,if_neg (fun h=>this h.2)]
           cases h7:zm (atB l Zd) l.length with
           | some k=>rw[kH (f:=3) (r:=7) (by rw[e7];exact h7)];rfl
           | none=>
             rw[jU (f:=3) (r:=7) (by rw[e7];exact h7)];simp only[show ¬(7=5∧hasB l qg 6=false) from fun h=>by omega,show ¬(7=6∧hasB l qg 2=false) from fun h=>by omega,if_false]
             cases h8:zm (atB l (Yt (kX l))) l.length with
             | some k=>rw[kH (f:=2) (r:=8) (by rw[e8];exact h8)];rfl
             | none=>
               rw[jU (f:=2) (r:=8) (by rw[e8];exact h8)];simp only[show ¬(8=5∧hasB l qg 6=false) from fun h=>by omega,show ¬(8=6∧hasB l qg 2=false) from fun h=>by omega,if_false]
               cases h9:zm (atB l (xu (qx qg) (qI l) (zx l))) l.length with
               | some k=>rw[kH (f:=1) (r:=9) (by rw[e9];exact h9)];rfl
               | none=>
                 rw[jU (f:=1) (r:=9) (by rw[e9];exact h9)];simp only[show ¬(9=5∧hasB l qg 6=false) from fun h=>by omega,show ¬(9=6∧hasB l qg 2=false) from fun h=>by omega,if_false]
                 cases h10:zm (atB l (QK (qI l))) l.length with
                 | some k=>rw[kH (f:=0) (r:=10) (by rw[e10];exact h10)];rfl
                 | none=>
                   rw[jU (f:=0) (r:=10) (by rw[e10];exact h10)];simp only[show ¬(10=5∧hasB l qg 6=false) from fun h=>by omega,show ¬(10=6∧hasB l qg 2=false) from fun h=>by omega,if_false];rfl
theorem chain_hit {qg:ByteArray}{l:List Rec}{f r k:Nat}(hk:k<l.length)(h:QA qg l r k=true)(hb:∀j,j<k→QA qg l r j=false):xm qg l (f+1) r=some ((k:Int),codeR r):=by
 rw[kH (V8 hk h hb)]
theorem chain_miss {qg:ByteArray}{l:List Rec}{f r:Nat}(h:∀j,j<l.length→QA qg l r j=false):xm qg l (f+1) r=if r=5∧hasB l qg 6=false then some (-1,15) else if r=6∧hasB l qg 2=false then some (-1,16) else xm qg l f (r+1):=by
 rw[jU (vR h)]
end zn
theorem rbreaks_any (qg:ByteArray)(hap:qo qg=true)(l:List Rec)(k:Nat)(hk:k<l.length)(hl:l.length≤2000)(hsz:∀r∈l,r.owner.size≤1099511627776)(r:Nat)(h2:2≤r)(h10:r≤10)(hn:4≤r→zn.jN l)(v:Value)(w:World)(hrv:qm w v l):
 Calls Tryz.prog 81 #[.int .i64 (r:Int),.string qg,v,.int .i64 k] w fun e w'=>e= .returned (.bool (zn.QA qg l r k))∧Below w.heap.size w w':=by
 have Xm:qg.size≤1099511627776:=by have:=qU hap;omega
 match r,h2,h10 with
 | 2,_,_=>
   have e:zn.QA qg l 2 k=zn.jV l[k]:=zn.uM hk;rw[e];exact rbreaks_2 qg l k hk hl hsz v w hrv
 | 3,_,_=>
   have e:zn.QA qg l 3 k=(fun x:Rec=>!zB x.owner qg) l[k]:=zn.uM hk;rw[e];exact rbreaks_3 qg Xm l k hk hl hsz v w hrv
 | 4,_,_=>exact rbreaks_4 qg l k hk hl (hn (by omega)) v w hrv
 | 5,_,_=>exact rbreaks_5 qg Xm l k hk hl (hn (by omega)) v w hrv
 | 6,_,_=>exact rbreaks_6 qg l k hk hl (hn (by omega)) v w hrv
 | 7,_,_=>
   have e:zn.QA qg l 7 k=zn.Zd l[k]:=zn.uM hk;rw[e];exact rbreaks_7 qg l k hk hl (hn (by omega)) v w hrv
 | 8,_,_=>
   have e:zn.QA qg l 8 k=(zn.Yt (zn.kX l)) l[k]:=zn.uM hk;rw[e];exact rbreaks_8 qg l k hk hl (hn (by omega)) v w hrv
 | 9,_,_=>
   have e:zn.QA qg l 9 k=(zn.xu (qx qg) (zn.qI l) (zn.zx l)) l[k]:=zn.uM hk;rw[e];exact rbreaks_9 qg hap l k hk hl (hn (by omega)) v w hrv
 | 10,_,_=>
   have e:zn.QA qg l 10 k=(zn.QK (zn.qI l)) l[k]:=zn.uM hk;rw[e];exact rbreaks_10 qg l k hk hl (hn (by omega)) v w hrv
def xA (w:World)(z:Nat)(qg:ByteArray)(L:List Rec):Prop:=
 ∃g cap,w.heap[z]? =some (.cells #[.string qg,.slice (some ⟨g,0,none⟩) L.length cap] 58 (0,0))∧qm w (.slice (some ⟨g,0,none⟩) L.length cap) L
theorem xA.below {w w':World}{z:Nat}{qg:ByteArray}{L:List Rec}(h:xA w z qg L)(hb:Below w.heap.size w w'):xA w' z qg L:=by
 obtain⟨g,cap,h1,h2⟩:=h;exact⟨g,cap,(hb.block z (qA h1)).trans h1,h2.below hb⟩
def RMake (qg:ByteArray)(l:List Rec)(w:World)(e:Ending)(w':World):Prop:=Below w.heap.size w w'∧match zn.yO qg l with
 | some (k,c)=>e= .returned (.tuple #[.pointer none,.int .i64 k,.int .i64 c])
 | none=>∃z L,zS l L∧e= .returned (.tuple #[.pointer (some ⟨z,0,none⟩),.int .i64 0,.int .i64 0])∧xA w' z qg L
theorem RMake.bad {qg:ByteArray}{l:List Rec}{w w':World}{k c:Int}(h:zn.yO qg l=some (k,c))(hB:Below w.heap.size w w'):RMake qg l w (.returned (.tuple #[.pointer none,.int .i64 k,.int .i64 c])) w':=by
 refine⟨hB,?_⟩;rw[h]
theorem RMake.good {qg:ByteArray}{l L:List Rec}{w w':World}{z:Nat}(h:zn.yO qg l=none)(hB:Below w.heap.size w w')(hs:zS l L)(hz:xA w' z qg L):RMake qg l w (.returned (.tuple #[.pointer (some ⟨z,0,none⟩),.int .i64 0,.int .i64 0])) w':=by
 refine⟨hB,?_⟩;rw[h];exact⟨z,L,hs,rfl,hz⟩
def codesC:Array Value:=#[.int .i64 0,.int .i64 0,.int .i64 8,.int .i64 5,.int .i64 19,.int .i64 15,.int .i64 0,.int .i64 22,.int .i64 17,.int .i64 18,.int .i64 21]
theorem codes_at {w:World}{b:Nat}(h:w.heap[b]? =some (.cells codesC 47 (0,0)))(r:Nat)(h2:2≤r)(h10:r≤10):w.cell? ⟨b,r,none⟩=some (.int .i64 (zn.codeR r)):=by
 rw[qh h]
 match r,h2,h10 with
 | 2,_,_=>rfl
 | 3,_,_=>rfl
 | 4,_,_=>rfl
 | 5,_,_=>rfl
 | 6,_,_=>rfl
 | 7,_,_=>rfl
 | 8,_,_=>rfl
 | 9,_,_=>rfl
 | 10,_,_=>rfl
end Go.Proofs.YtpcmilhjpmlbpaaGreatDoor
