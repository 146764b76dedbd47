import Derived.Test.YtpcmilhjpmlbpaaGreatDoorQRefV
set_option maxRecDepth 100000
set_option maxHeartbeats 4000000
namespace Go.Proofs.YtpcmilhjpmlbpaaGreatDoor
open Go.RowKit Go.Shelf nm od
theorem rbreaks_9 (qf:ByteArray)(hap:qo qf=true)(l:List Rec)(k:Nat)(hk:k<l.length)(hl:l.length<=2000)(hn:zn.jN l)(v:Value)(w:World)(hrv:ql w v l):
 Calls Tryz.prog 81 #[.int .i64 9,.string qf,v,.int .i64 k] w λe w'=>e= .returned (.bool (zn.xA (qy qf) (zn.qJ l) (zn.zD l) l[k]))/\Below w.heap.size w w':=by
 have UX:qf.size<=1099511627776:=by have:=qV hap;omega
 have hsz:∀r∈l,r.owner.size<=1099511627776:=λr hr=>by have:=qV (hn r hr);omega
 obtain⟨b,off,cap,rfl,hcap⟩:=uM hrv hk;obtain⟨hb,c0,c1,c2,c3,c4⟩:=qH hrv hk;have hki:(k:Int)<(l.length:Int):=by omega
 obtain⟨w1,hw1⟩:=yM (w.alloc (.cells (recC l[k]).toArray 80));obtain⟨hB1,hz1,hx⟩:=zf w w1 l[k] hw1;have Qr:=hrv.below hB1;have lt1:w.heap.size<w1.heap.size:=by omega
 have hso:=hsz l[k] (Ht hk);obtain⟨x0,x1,x2,x3,x4⟩:=id hx;have HW1:=qe hw1;have HB1:=qe hB1;have HZ1:=qe hz1;have HX:=qe hx;have HRV:=qe hrv;have ZX:=qe Qr;have HSZ:=qe hsz;clear hw1 hB1 hz1 hx hrv Qr hsz;have hs1:=HB1.out.size;by_cases h39:l[k].typ=39
 ·have b39:(l[k].typ != 39)=false:=by rw[h39];rfl
  have HN:=qe hn;have H39:=qe h39;have HAP:=qe hap;clear hn h39 hap
  go_enter Tryz.func81,Tryz.ntmps81
  go_wp2_with fail;rw[<- HW1.out];clear c0 c1 c2 c3 c4 x1 x2 x3 x4
  go_loopw [155,13,14] (λjv _ _ wr=>∃j:Nat,j<=l.length/\jv= .int .i64 (j:Int)/\(∀i (hi:i<l.length),i<j->zn.VL k i l[k] l[i]=false)/\Below w1.heap.size w1 wr) (λjv _ _ _=>l.length-(intOf jv).toNat)
  case atStart=>exact⟨0,gU _,rfl,(λi hi h=>by omega),gJ _ _⟩
  case round=>
   obtain⟨j,hj,rfl,hno,hB⟩:=hrel;by_cases hjl:j<l.length
   ·have hji:(j:Int)<(l.length:Int):=by omega
    obtain⟨hb',ra⟩:=qH ZX.out hjl;obtain⟨y0,y1,y2,y3,y4⟩:=ra.keep (hB.block _ hb');obtain⟨x0,x1,x2,x3,x4⟩:=HX.out.keep (hB.block _ lt1);have e0:=qh y0;have e1:=qh y1;have e3:=qh y3;have f0:=qh x0;have f1:=qh x1;have f3:=qh x3;have sj:=HSZ.out _ (Ht hjl);have hsr:=hB.size;clear x0 x1 x2 x3 x4 y0 y1 y2 y3 y4
    have hnx:zn.VL k j l[k] l[j]=false->∀i (hi:i<l.length),i<j+1->zn.VL k i l[k] l[i]=false:=λh9 i hi h=>by
     rcases Nat.lt_or_ge i j with h' | h'
     ·exact hno i hi h'
     ·obtain rfl:i=j:=by omega
      exact h9
    cases he:qG l[j].owner l[k].owner
    ·have CE:Hid (∀g,Calls Tryz.prog 55 #[.string l[j].owner,.string l[k].owner] (gw wr g) λe w''=>e= .returned (.bool false)/\∃g',w''=gw wr g'):=qe λg=>qY (by rw[<- he];exact zT _ _ sj hso _)
     cases hwi:zI l[j].owner l[k].owner
     ·have yU:=hnx (by unfold zn.VL;rw[he,hwi];simp);by_cases hjk:j=k
      ·have bj:((j:Int) != (k:Int))=false:=by rw[hjk];simp
       have CW:Hid (∀(W:World) g,Calls Tryz.prog 131 #[.string l[j].owner,.string l[k].owner] (gw W g) λe w''=>e= .returned (.bool false)/\∃g',w''=gw W g'):=qe λW g=>qY (by rw[<- hwi];exact Ql _ _ sj hso _);have HNO:=qe hno;have HB:=qe hB;have uu:=qe yU;have HE:=qe he;have HJK:=qe hjk;have HWI:=qe hwi;clear hno hB yU he hjk hwi;clear hnx;go_wp2_with fail;refine qp (by kernel_rfl) (by kernel_rfl) ?_
       repeat (with_reducible refine Hu (λK hK=>?_);go_simp;(try simp only[undef]);first | (with_reducible refine hK _ ?_;clear hK K) | (apply gW;refine⟨λ_=>?_,hK _ ?_⟩;(first | (go_at_call 55;with_reducible exact CE.out _));clear hK K) | (with_reducible refine⟨λ_ h=>(by cases h),?_⟩;with_reducible refine hK _ ?_;clear hK K))
       refine Hw ?_
       (try simp only[show Value.tuple #[]=undef from rfl])
       intro W hW;have hBW:Below wr.heap.size wr W:=by obtain⟨g,rfl⟩:=hW;exact qD _ g
       clear hW;have HBW:=qe (HB.out.trans (hBW.mono hsr));clear hBW;obtain⟨y0,y1,y2,y3,y4⟩:=(qH ZX.out hjl).2.keep (HBW.out.block _ hb');obtain⟨x0,x1,x2,x3,x4⟩:=HX.out.keep (HBW.out.block _ lt1);have g0:=qh y0;have g1:=qh y1;have g2:=qh x0;clear x0 x1 x2 x3 x4 y0 y1 y2 y3 y4 e0 e1 e3 f0 f1 f3;go_wp2_with fail;refine qp (by kernel_rfl) (by kernel_rfl) ?_
       repeat (with_reducible refine Hu (λK hK=>?_);go_simp;(try simp only[undef]);first | (with_reducible refine hK _ ?_;clear hK K) | (apply gW;refine⟨λ_=>?_,hK _ ?_⟩;(first | (go_at_call 131;with_reducible exact CW.out _ _));clear hK K) | (with_reducible refine⟨λ_ h=>(by cases h),?_⟩;with_reducible refine hK _ ?_;clear hK K))
       refine Hw ?_
       (try simp only[show Value.tuple #[]=undef from rfl])
       intro W2 hW2;have Qs:Below W.heap.size W W2:=by obtain⟨g,rfl⟩:=hW2;exact qD _ g
       clear hW2;have Zu:=qe (gm HBW.out Qs);clear Qs;go_wp2_with fail
       go_roundw
       case rel=>exact⟨j+1,by omega,by go_num,uu.out,Zu.out⟩
       case measure=>simp[intOf];omega
      ·have bj:((j:Int) != (k:Int))=true:=by rw[bne_iff_ne];omega
       have CW:Hid (∀(W:World) g,Calls Tryz.prog 131 #[.string l[j].owner,.string l[k].owner] (gw W g) λe w''=>e= .returned (.bool false)/\∃g',w''=gw W g'):=qe λW g=>qY (by rw[<- hwi];exact Ql _ _ sj hso _);have HNO:=qe hno;have HB:=qe hB;have uu:=qe yU;have HE:=qe he;have HJK:=qe hjk;have HWI:=qe hwi;clear hno hB yU he hjk hwi;clear hnx;go_wp2_with fail;refine qp (by kernel_rfl) (by kernel_rfl) ?_
       repeat (with_reducible refine Hu (λK hK=>?_);go_simp;(try simp only[undef]);first | (with_reducible refine hK _ ?_;clear hK K) | (apply gW;refine⟨λ_=>?_,hK _ ?_⟩;(first | (go_at_call 55;with_reducible exact CE.out _));clear hK K) | (with_reducible refine⟨λ_ h=>(by cases h),?_⟩;with_reducible refine hK _ ?_;clear hK K))
       refine Hw ?_
       (try simp only[show Value.tuple #[]=undef from rfl])
       intro W hW;have hBW:Below wr.heap.size wr W:=by obtain⟨g,rfl⟩:=hW;exact qD _ g
       clear hW;have HBW:=qe (HB.out.trans (hBW.mono hsr));clear hBW;obtain⟨y0,y1,y2,y3,y4⟩:=(qH ZX.out hjl).2.keep (HBW.out.block _ hb');obtain⟨x0,x1,x2,x3,x4⟩:=HX.out.keep (HBW.out.block _ lt1);have g0:=qh y0;have g1:=qh y1;have g2:=qh x0;clear x0 x1 x2 x3 x4 y0 y1 y2 y3 y4 e0 e1 e3 f0 f1 f3;go_wp2_with fail;refine qp (by kernel_rfl) (by kernel_rfl) ?_
       repeat (with_reducible refine Hu (λK hK=>?_);go_simp;(try simp only[undef]);first | (with_reducible refine hK _ ?_;clear hK K) | (apply gW;refine⟨λ_=>?_,hK _ ?_⟩;(first | (go_at_call 131;with_reducible exact CW.out _ _));clear hK K) | (with_reducible refine⟨λ_ h=>(by cases h),?_⟩;with_reducible refine hK _ ?_;clear hK K))
       refine Hw ?_
       (try simp only[show Value.tuple #[]=undef from rfl])
       intro W2 hW2;have Qs:Below W.heap.size W W2:=by obtain⟨g,rfl⟩:=hW2;exact qD _ g
       clear hW2;have Zu:=qe (gm HBW.out Qs);clear Qs;go_wp2_with fail
       go_roundw
       case rel=>exact⟨j+1,by omega,by go_num,uu.out,Zu.out⟩
       case measure=>simp[intOf];omega
     ·have hres:zn.xA (qy qf) (zn.qJ l) (zn.zD l) l[k]=true:=zn.bad5_hit hk hjl H39.out HN.out (by unfold zn.VL;rw[he,hwi];simp);by_cases hjk:j=k
      ·have bj:((j:Int) != (k:Int))=false:=by rw[hjk];simp
       have yU:True:=trivial;have CW:Hid (∀(W:World) g,Calls Tryz.prog 131 #[.string l[j].owner,.string l[k].owner] (gw W g) λe w''=>e= .returned (.bool true)/\∃g',w''=gw W g'):=qe λW g=>qY (by rw[<- hwi];exact Ql _ _ sj hso _);have HNO:=qe hno;have HB:=qe hB;have uu:=qe yU;have HE:=qe he;have HJK:=qe hjk;have HWI:=qe hwi;clear hno hB yU he hjk hwi;clear hnx;go_wp2_with fail;refine qp (by kernel_rfl) (by kernel_rfl) ?_
       repeat (with_reducible refine Hu (λK hK=>?_);go_simp;(try simp only[undef]);first | (with_reducible refine hK _ ?_;clear hK K) | (apply gW;refine⟨λ_=>?_,hK _ ?_⟩;(first | (go_at_call 55;with_reducible exact CE.out _));clear hK K) | (with_reducible refine⟨λ_ h=>(by cases h),?_⟩;with_reducible refine hK _ ?_;clear hK K))
       refine Hw ?_
       (try simp only[show Value.tuple #[]=undef from rfl])
       intro W hW;have hBW:Below wr.heap.size wr W:=by obtain⟨g,rfl⟩:=hW;exact qD _ g
       clear hW;have HBW:=qe (HB.out.trans (hBW.mono hsr));clear hBW;obtain⟨y0,y1,y2,y3,y4⟩:=(qH ZX.out hjl).2.keep (HBW.out.block _ hb');obtain⟨x0,x1,x2,x3,x4⟩:=HX.out.keep (HBW.out.block _ lt1);have g0:=qh y0;have g1:=qh y1;have g2:=qh x0;clear x0 x1 x2 x3 x4 y0 y1 y2 y3 y4 e0 e1 e3 f0 f1 f3;go_wp2_with fail;refine qp (by kernel_rfl) (by kernel_rfl) ?_
       repeat (with_reducible refine Hu (λK hK=>?_);go_simp;(try simp only[undef]);first | (with_reducible refine hK _ ?_;clear hK K) | (apply gW;refine⟨λ_=>?_,hK _ ?_⟩;(first | (go_at_call 131;with_reducible exact CW.out _ _));clear hK K) | (with_reducible refine⟨λ_ h=>(by cases h),?_⟩;with_reducible refine hK _ ?_;clear hK K))
       refine Hw ?_
       (try simp only[show Value.tuple #[]=undef from rfl])
       intro W2 hW2;have Qs:Below W.heap.size W W2:=by obtain⟨g,rfl⟩:=hW2;exact qD _ g
       clear hW2;have Zu:=qe (HB1.out.trans ((gm HBW.out Qs).mono hs1));clear Qs;have zK:=qe hres;clear hres;go_wp2_with fail;go_ret;exact⟨qI zK.out.symm,Zu.out⟩
      ·have bj:((j:Int) != (k:Int))=true:=by rw[bne_iff_ne];omega
       have yU:True:=trivial;have CW:Hid (∀(W:World) g,Calls Tryz.prog 131 #[.string l[j].owner,.string l[k].owner] (gw W g) λe w''=>e= .returned (.bool true)/\∃g',w''=gw W g'):=qe λW g=>qY (by rw[<- hwi];exact Ql _ _ sj hso _);have HNO:=qe hno;have HB:=qe hB;have uu:=qe yU;have HE:=qe he;have HJK:=qe hjk;have HWI:=qe hwi;clear hno hB yU he hjk hwi;clear hnx;go_wp2_with fail;refine qp (by kernel_rfl) (by kernel_rfl) ?_
       repeat (with_reducible refine Hu (λK hK=>?_);go_simp;(try simp only[undef]);first | (with_reducible refine hK _ ?_;clear hK K) | (apply gW;refine⟨λ_=>?_,hK _ ?_⟩;(first | (go_at_call 55;with_reducible exact CE.out _));clear hK K) | (with_reducible refine⟨λ_ h=>(by cases h),?_⟩;with_reducible refine hK _ ?_;clear hK K))
       refine Hw ?_
       (try simp only[show Value.tuple #[]=undef from rfl])
       intro W hW;have hBW:Below wr.heap.size wr W:=by obtain⟨g,rfl⟩:=hW;exact qD _ g
       clear hW;have HBW:=qe (HB.out.trans (hBW.mono hsr));clear hBW;obtain⟨y0,y1,y2,y3,y4⟩:=(qH ZX.out hjl).2.keep (HBW.out.block _ hb');obtain⟨x0,x1,x2,x3,x4⟩:=HX.out.keep (HBW.out.block _ lt1);have g0:=qh y0;have g1:=qh y1;have g2:=qh x0;clear x0 x1 x2 x3 x4 y0 y1 y2 y3 y4 e0 e1 e3 f0 f1 f3;go_wp2_with fail;refine qp (by kernel_rfl) (by kernel_rfl) ?_
       repeat (with_reducible refine Hu (λK hK=>?_);go_simp;(try simp only[undef]);first | (with_reducible refine hK _ ?_;clear hK K) | (apply gW;refine⟨λ_=>?_,hK _ ?_⟩;(first | (go_at_call 131;with_reducible exact CW.out _ _));clear hK K) | (with_reducible refine⟨λ_ h=>(by cases h),?_⟩;with_reducible refine hK _ ?_;clear hK K))
       refine Hw ?_
       (try simp only[show Value.tuple #[]=undef from rfl])
       intro W2 hW2;have Qs:Below W.heap.size W W2:=by obtain⟨g,rfl⟩:=hW2;exact qD _ g
       clear hW2;have Zu:=qe (HB1.out.trans ((gm HBW.out Qs).mono hs1));clear Qs;have zK:=qe hres;clear hres;go_wp2_with fail;go_ret;exact⟨qI zK.out.symm,Zu.out⟩
    ·have CE:Hid (∀g,Calls Tryz.prog 55 #[.string l[j].owner,.string l[k].owner] (gw wr g) λe w''=>e= .returned (.bool true)/\∃g',w''=gw wr g'):=qe λg=>qY (by rw[<- he];exact zT _ _ sj hso _);by_cases hjk:j=k
     ·have bj:((j:Int) != (k:Int))=false:=by rw[hjk];simp
      have yU:=hnx (by unfold zn.VL;rw[he,gp (show ¬j≠k from λh=>h hjk)];simp);have HNO:=qe hno;have HB:=qe hB;have uu:=qe yU;have HE:=qe he;have HJK:=qe hjk;clear hno hB yU he hjk;clear hnx;go_wp2_with fail;refine qp (by kernel_rfl) (by kernel_rfl) ?_
      repeat (with_reducible refine Hu (λK hK=>?_);go_simp;(try simp only[undef]);first | (with_reducible refine hK _ ?_;clear hK K) | (apply gW;refine⟨λ_=>?_,hK _ ?_⟩;(first | (go_at_call 55;with_reducible exact CE.out _));clear hK K) | (with_reducible refine⟨λ_ h=>(by cases h),?_⟩;with_reducible refine hK _ ?_;clear hK K))
      refine Hw ?_
      (try simp only[show Value.tuple #[]=undef from rfl])
      intro W hW;have hBW:Below wr.heap.size wr W:=by obtain⟨g,rfl⟩:=hW;exact qD _ g
      clear hW;have HBW:=qe (HB.out.trans (hBW.mono hsr));clear hBW;obtain⟨y0,y1,y2,y3,y4⟩:=(qH ZX.out hjl).2.keep (HBW.out.block _ hb');obtain⟨x0,x1,x2,x3,x4⟩:=HX.out.keep (HBW.out.block _ lt1);have g0:=qh y0;have g1:=qh y1;have g2:=qh x0;clear x0 x1 x2 x3 x4 y0 y1 y2 y3 y4 e0 e1 e3 f0 f1 f3;go_wp2_with fail;refine qp (by kernel_rfl) (by kernel_rfl) ?_
      repeat (with_reducible refine Hu (λK hK=>?_);go_simp;(try simp only[undef]);first | (with_reducible refine hK _ ?_;clear hK K) | (apply gW;refine⟨λ_=>?_,hK _ ?_⟩;(first | (fail));clear hK K) | (with_reducible refine⟨λ_ h=>(by cases h),?_⟩;with_reducible refine hK _ ?_;clear hK K))
      refine Hw ?_
      (try simp only[show Value.tuple #[]=undef from rfl])
      intro W2 hW2;have Qs:Below W.heap.size W W2:=by obtain⟨g,rfl⟩:=hW2;exact qD _ g
      clear hW2;have Zu:=qe (gm HBW.out Qs);clear Qs;go_wp2_with fail
      go_roundw
      case rel=>exact⟨j+1,by omega,by go_num,uu.out,Zu.out⟩
      case measure=>simp[intOf];omega
     ·have bj:((j:Int) != (k:Int))=true:=by rw[bne_iff_ne];omega
      by_cases t39:l[j].typ=39
      ·have bt:(l[j].typ == 39)=true:=by rw[Hz];exact t39
       have hres:zn.xA (qy qf) (zn.qJ l) (zn.zD l) l[k]=true:=zn.bad5_hit hk hjl H39.out HN.out (by unfold zn.VL;rw[he,gF hjk,gF t39];simp);have yU:True:=trivial;have T39:=qe t39;clear t39;have HNO:=qe hno;have HB:=qe hB;have uu:=qe yU;have HE:=qe he;have HJK:=qe hjk;clear hno hB yU he hjk;clear hnx;go_wp2_with fail;refine qp (by kernel_rfl) (by kernel_rfl) ?_
       repeat (with_reducible refine Hu (λK hK=>?_);go_simp;(try simp only[undef]);first | (with_reducible refine hK _ ?_;clear hK K) | (apply gW;refine⟨λ_=>?_,hK _ ?_⟩;(first | (go_at_call 55;with_reducible exact CE.out _));clear hK K) | (with_reducible refine⟨λ_ h=>(by cases h),?_⟩;with_reducible refine hK _ ?_;clear hK K))
       refine Hw ?_
       (try simp only[show Value.tuple #[]=undef from rfl])
       intro W hW;have hBW:Below wr.heap.size wr W:=by obtain⟨g,rfl⟩:=hW;exact qD _ g
       clear hW;have HBW:=qe (HB.out.trans (hBW.mono hsr));clear hBW;obtain⟨y0,y1,y2,y3,y4⟩:=(qH ZX.out hjl).2.keep (HBW.out.block _ hb');obtain⟨x0,x1,x2,x3,x4⟩:=HX.out.keep (HBW.out.block _ lt1);have g0:=qh y0;have g1:=qh y1;have g2:=qh x0;clear x0 x1 x2 x3 x4 y0 y1 y2 y3 y4 e0 e1 e3 f0 f1 f3;go_wp2_with fail;refine qp (by kernel_rfl) (by kernel_rfl) ?_
       repeat (with_reducible refine Hu (λK hK=>?_);go_simp;(try simp only[undef]);first | (with_reducible refine hK _ ?_;clear hK K) | (apply gW;refine⟨λ_=>?_,hK _ ?_⟩;(first | (fail));clear hK K) | (with_reducible refine⟨λ_ h=>(by cases h),?_⟩;with_reducible refine hK _ ?_;clear hK K))
       refine Hw ?_
       (try simp only[show Value.tuple #[]=undef from rfl])
       intro W2 hW2;have Qs:Below W.heap.size W W2:=by obtain⟨g,rfl⟩:=hW2;exact qD _ g
       clear hW2;have Zu:=qe (HB1.out.trans ((gm HBW.out Qs).mono hs1));clear Qs;have zK:=qe hres;clear hres;go_wp2_with fail;go_ret;exact⟨qI zK.out.symm,Zu.out⟩
      ·have bt:(l[j].typ == 39)=false:=by rw[gG];exact t39
       have yU:=hnx (by unfold zn.VL;rw[he,gp t39];simp);have T39:=qe t39;clear t39;have HNO:=qe hno;have HB:=qe hB;have uu:=qe yU;have HE:=qe he;have HJK:=qe hjk;clear hno hB yU he hjk;clear hnx;go_wp2_with fail;refine qp (by kernel_rfl) (by kernel_rfl) ?_
       repeat (with_reducible refine Hu (λK hK=>?_);go_simp;(try simp only[undef]);first | (with_reducible refine hK _ ?_;clear hK K) | (apply gW;refine⟨λ_=>?_,hK _ ?_⟩;(first | (go_at_call 55;with_reducible exact CE.out _));clear hK K) | (with_reducible refine⟨λ_ h=>(by cases h),?_⟩;with_reducible refine hK _ ?_;clear hK K))
       refine Hw ?_
       (try simp only[show Value.tuple #[]=undef from rfl])
       intro W hW;have hBW:Below wr.heap.size wr W:=by obtain⟨g,rfl⟩:=hW;exact qD _ g
       clear hW;have HBW:=qe (HB.out.trans (hBW.mono hsr));clear hBW;obtain⟨y0,y1,y2,y3,y4⟩:=(qH ZX.out hjl).2.keep (HBW.out.block _ hb');obtain⟨x0,x1,x2,x3,x4⟩:=HX.out.keep (HBW.out.block _ lt1);have g0:=qh y0;have g1:=qh y1;have g2:=qh x0;clear x0 x1 x2 x3 x4 y0 y1 y2 y3 y4 e0 e1 e3 f0 f1 f3;go_wp2_with fail;refine qp (by kernel_rfl) (by kernel_rfl) ?_
       repeat (with_reducible refine Hu (λK hK=>?_);go_simp;(try simp only[undef]);first | (with_reducible refine hK _ ?_;clear hK K) | (apply gW;refine⟨λ_=>?_,hK _ ?_⟩;(first | (fail));clear hK K) | (with_reducible refine⟨λ_ h=>(by cases h),?_⟩;with_reducible refine hK _ ?_;clear hK K))
       refine Hw ?_
       (try simp only[show Value.tuple #[]=undef from rfl])
       intro W2 hW2;have Qs:Below W.heap.size W W2:=by obtain⟨g,rfl⟩:=hW2;exact qD _ g
       clear hW2;have Zu:=qe (gm HBW.out Qs);clear Qs;go_wp2_with fail
       go_roundw
       case rel=>exact⟨j+1,by omega,by go_num,uu.out,Zu.out⟩
       case measure=>simp[intOf];omega
   ·obtain rfl:j=l.length:=by omega
    have hres:zn.xA (qy qf) (zn.qJ l) (zn.zD l) l[k]=qG l[k].owner qf:=zn.bad5_miss HAP.out hk H39.out HN.out (λj hj=>hno j hj hj);obtain⟨x0',_⟩:=HX.out.keep (hB.block _ lt1);have HBE:=qe (HB1.out.trans (hB.mono hs1));have HNO:=qe hno;have HB:=qe hB;have zK:=qe hres;clear hno hB hres;go_wp2_with fail;refine(zT _ _ hso UX _).mono ?_;rintro e w2 ⟨rfl,hB2⟩;have HB2:=qe (gm HBE.out hB2);clear hB2;go_wp2_with fail;go_ret;exact⟨qI zK.out.symm,HB2.out⟩
 ·have b39:(l[k].typ != 39)=true:=by rw[bne_iff_ne];exact h39
  have hres:zn.xA (qy qf) (zn.qJ l) (zn.zD l) l[k]=false:=zn.bad5_other h39;have H39:=qe h39;have zK:=qe hres;clear h39 hres
  go_enter Tryz.func81,Tryz.ntmps81
  go_wp2_with fail;go_ret;exact⟨qI zK.out.symm,by rw[<- HW1.out];exact HB1.out⟩
theorem rbreaks_10 (qf:ByteArray)(l:List Rec)(k:Nat)(hk:k<l.length)(hl:l.length<=2000)(hn:zn.jN l)(v:Value)(w:World)(hrv:ql w v l):
 Calls Tryz.prog 81 #[.int .i64 10,.string qf,v,.int .i64 k] w λe w'=>e= .returned (.bool (zn.QS (zn.qJ l) l[k]))/\Below w.heap.size w w':=by
 have hsz:∀r∈l,r.owner.size<=1099511627776:=λr hr=>by have:=qV (hn r hr);omega
 obtain⟨b,off,cap,rfl,hcap⟩:=uM hrv hk;obtain⟨hb,c0,c1,c2,c3,c4⟩:=qH hrv hk;have hki:(k:Int)<(l.length:Int):=by omega
 obtain⟨w1,hw1⟩:=yM (w.alloc (.cells (recC l[k]).toArray 80));obtain⟨hB1,hz1,hx⟩:=zf w w1 l[k] hw1;have Qr:=hrv.below hB1;have lt1:w.heap.size<w1.heap.size:=by omega
 have hso:=hsz l[k] (Ht hk);obtain⟨x0,x1,x2,x3,x4⟩:=id hx;have HW1:=qe hw1;have HB1:=qe hB1;have HZ1:=qe hz1;have HX:=qe hx;have HRV:=qe hrv;have ZX:=qe Qr;have HSZ:=qe hsz;clear hw1 hB1 hz1 hx hrv Qr hsz;have hs1:=HB1.out.size;have HN:=qe hn;clear hn
 go_enter Tryz.func81,Tryz.ntmps81
 go_wp2_with fail;rw[<- HW1.out];clear c0 c1 c2 c3 c4 x0 x1 x2 x3 x4
 go_loopw [15] (λjv wr=>∃j:Nat,j<=k/\jv= .int .i64 (j:Int)/\(l[k].typ≠46->∀i (hi:i<l.length),i<j->zn.yh l[i]≠zn.yh l[k])/\Below w1.heap.size w1 wr) (λjv _=>k-(intOf jv).toNat)
 case atStart=>exact⟨0,gU _,rfl,(λ_ i hi h=>by omega),gJ _ _⟩
 case round=>
  obtain⟨j,hj,rfl,hno,hB⟩:=hrel;by_cases hlt:j<k
  ·have hjl:j<l.length:=by omega
   have hji:(j:Int)<(l.length:Int):=by omega
   obtain⟨hb',ra⟩:=qH ZX.out hjl;obtain⟨y0,y1,y2,y3,y4⟩:=ra.keep (hB.block _ hb');obtain⟨x0,x1,x2,x3,x4⟩:=HX.out.keep (hB.block _ lt1);have e0:=qh y0;have e1:=qh y1;have e3:=qh y3;have f0:=qh x0;have f1:=qh x1;have f3:=qh x3;have sj:=HSZ.out _ (Ht hjl);have hsr:=hB.size;clear x0 x1 x2 x3 x4 y0 y1 y2 y3 y4;have nj:=HN.out _ (Ht hjl);have nk:=HN.out _ (Ht hk);have hkey:=zn.key_iff nj nk
   have hnx:(l[k].typ≠46->zn.yh l[j]≠zn.yh l[k])->l[k].typ≠46->∀i (hi:i<l.length),i<j+1->zn.yh l[i]≠zn.yh l[k]:=λh9 h46 i hi h=>by
    rcases Nat.lt_or_ge i j with h' | h'
    ·exact hno h46 i hi h'
    ·obtain rfl:i=j:=by omega
     exact h9 h46
   by_cases h46:l[k].typ=46
   ·have b46:(l[k].typ != 46)=false:=by rw[h46];rfl
    have yU:=hnx (λh=>absurd h46 h);clear nj nk hkey;have H46:=qe h46;have HNO:=qe hno;have HB:=qe hB;have uu:=qe yU;clear h46 hno hB yU;clear hnx;go_wp2_with fail;refine qp (by kernel_rfl) (by kernel_rfl) ?_
    repeat (with_reducible refine Hu (λK hK=>?_);go_simp;(try simp only[undef]);first | (with_reducible refine hK _ ?_;clear hK K) | (apply gW;refine⟨λ_=>?_,hK _ ?_⟩;(first | (fail));clear hK K) | (with_reducible refine⟨λ_ h=>(by cases h),?_⟩;with_reducible refine hK _ ?_;clear hK K))
    refine Hw ?_
    (try simp only[show Value.tuple #[]=undef from rfl])
    intro W hW;have hBW:Below wr.heap.size wr W:=by obtain⟨g,rfl⟩:=hW;exact qD _ g
    clear hW;have HBW:=qe (HB.out.trans (hBW.mono hsr));clear hBW;go_wp2_with fail
    go_roundw
    case rel=>exact⟨j+1,by omega,by go_num,uu.out,HBW.out⟩
    case measure=>simp[intOf];omega
   ·have b46:(l[k].typ != 46)=true:=by rw[bne_iff_ne];exact h46
    by_cases ht:l[j].typ=l[k].typ
    ·have bt:(l[j].typ == l[k].typ)=true:=by rw[Hz];exact ht
     cases he:qG l[j].owner l[k].owner
     ·have yU:=hnx (λ_ h=>by
       have:=(hkey.1 h).2;rw[he]at this
       cases this)
      have CE:Hid (∀g,Calls Tryz.prog 55 #[.string l[j].owner,.string l[k].owner] (gw wr g) λe w''=>e= .returned (.bool false)/\∃g',w''=gw wr g'):=qe λg=>qY (by rw[<- he];exact zT _ _ sj hso _);clear nj nk hkey;have H46:=qe h46;have HNO:=qe hno;have HB:=qe hB;have uu:=qe yU;have HT:=qe ht;have HE:=qe he;clear h46 hno hB yU ht he;clear hnx;go_wp2_with fail;refine qp (by kernel_rfl) (by kernel_rfl) ?_
      repeat (with_reducible refine Hu (λK hK=>?_);go_simp;(try simp only[undef]);first | (with_reducible refine hK _ ?_;clear hK K) | (apply gW;refine⟨λ_=>?_,hK _ ?_⟩;(first | (go_at_call 55;with_reducible exact CE.out _));clear hK K) | (with_reducible refine⟨λ_ h=>(by cases h),?_⟩;with_reducible refine hK _ ?_;clear hK K))
      refine Hw ?_
      (try simp only[show Value.tuple #[]=undef from rfl])
      intro W hW;have hBW:Below wr.heap.size wr W:=by obtain⟨g,rfl⟩:=hW;exact qD _ g
      clear hW;have HBW:=qe (HB.out.trans (hBW.mono hsr));clear hBW;go_wp2_with fail
      go_roundw
      case rel=>exact⟨j+1,by omega,by go_num,uu.out,HBW.out⟩
      case measure=>simp[intOf];omega
     ·have hres:zn.QS (zn.qJ l) l[k]=decide (l[j].ttl≠l[k].ttl):=zn.bad6_hit hk hjl h46 (hkey.2 ⟨ht,he⟩) (hno h46);have CE:Hid (∀g,Calls Tryz.prog 55 #[.string l[j].owner,.string l[k].owner] (gw wr g) λe w''=>e= .returned (.bool true)/\∃g',w''=gw wr g'):=qe λg=>qY (by rw[<- he];exact zT _ _ sj hso _);clear nj nk hkey;have H46:=qe h46;have HNO:=qe hno;have HB:=qe hB;have HT:=qe ht;have HE:=qe he;have zK:=qe hres;clear h46 hno hB ht he hres;clear hnx;go_wp2_with fail;refine qp (by kernel_rfl) (by kernel_rfl) ?_
      repeat (with_reducible refine Hu (λK hK=>?_);go_simp;(try simp only[undef]);first | (with_reducible refine hK _ ?_;clear hK K) | (apply gW;refine⟨λ_=>?_,hK _ ?_⟩;(first | (go_at_call 55;with_reducible exact CE.out _));clear hK K) | (with_reducible refine⟨λ_ h=>(by cases h),?_⟩;with_reducible refine hK _ ?_;clear hK K))
      refine Hw ?_
      (try simp only[show Value.tuple #[]=undef from rfl])
      intro W hW;have hBW:Below wr.heap.size wr W:=by obtain⟨g,rfl⟩:=hW;exact qD _ g
      clear hW;have HBW:=qe (HB.out.trans (hBW.mono hsr));clear hBW;obtain⟨y0,y1,y2,y3,y4⟩:=(qH ZX.out hjl).2.keep (HBW.out.block _ hb');obtain⟨x0,x1,x2,x3,x4⟩:=HX.out.keep (HBW.out.block _ lt1);have g3:=qh y3;have g4:=qh x3;clear x0 x1 x2 x3 x4 y0 y1 y2 y3 y4 e0 e1 e3 f0 f1 f3;go_wp2_with fail;refine qp (by kernel_rfl) (by kernel_rfl) ?_
      repeat (with_reducible refine Hu (λK hK=>?_);go_simp;(try simp only[undef]);first | (with_reducible refine hK _ ?_;clear hK K))
      refine Hw ?_
      (try simp only[show Value.tuple #[]=undef from rfl])
      intro W2 hW2;have Qs:Below W.heap.size W W2:=by obtain⟨g,rfl⟩:=hW2;exact qD _ g
      clear hW2;have Zu:=qe (HB1.out.trans ((gm HBW.out Qs).mono hs1));clear Qs;go_wp2_with fail;go_ret;exact⟨qI (by rw[zK.out];by_cases h:l[j].ttl=l[k].ttl <;> simp[h]),Zu.out⟩
    ·have bt:(l[j].typ == l[k].typ)=false:=by rw[gG];exact ht
     have yU:=hnx (λ_ h=>ht (hkey.1 h).1);clear nj nk hkey;have H46:=qe h46;have HNO:=qe hno;have HB:=qe hB;have uu:=qe yU;have HT:=qe ht;clear h46 hno hB yU ht;clear hnx;go_wp2_with fail;refine qp (by kernel_rfl) (by kernel_rfl) ?_
     repeat (with_reducible refine Hu (λK hK=>?_);go_simp;(try simp only[undef]);first | (with_reducible refine hK _ ?_;clear hK K) | (apply gW;refine⟨λ_=>?_,hK _ ?_⟩;(first | (fail));clear hK K) | (with_reducible refine⟨λ_ h=>(by cases h),?_⟩;with_reducible refine hK _ ?_;clear hK K))
     refine Hw ?_
     (try simp only[show Value.tuple #[]=undef from rfl])
     intro W hW;have hBW:Below wr.heap.size wr W:=by obtain⟨g,rfl⟩:=hW;exact qD _ g
     clear hW;have HBW:=qe (HB.out.trans (hBW.mono hsr));clear hBW;go_wp2_with fail
     go_roundw
     case rel=>exact⟨j+1,by omega,by go_num,uu.out,HBW.out⟩
     case measure=>simp[intOf];omega
  ·obtain rfl:j=k:=by omega
   have hres:zn.QS (zn.qJ l) l[j]=false:=by
    by_cases h46:l[j].typ=46
    ·exact zn.bad6_sig h46
    ·exact zn.bad6_miss hk (hno h46)
   have HBE:=qe (HB1.out.trans (hB.mono hs1));have HNO:=qe hno;have HB:=qe hB;have zK:=qe hres;clear hno hB hres;go_wp2_with fail;go_ret;exact⟨qI zK.out.symm,HBE.out⟩
namespace zn
def QF (qf:ByteArray)(l:List Rec)(r k:Nat):Bool:=
 if r=2 then atB l jT k else if r=3 then atB l (λx=>!zI x.owner qf) k else if r=4 then jP l k else if r=5 then Qj qf l k
 else if r=6 then false else if r=7 then atB l Zh k else if r=8 then atB l (YE (kZ l)) k else if r=9 then atB l (xA (qy qf) (qJ l) (zD l)) k else atB l (QS (qJ l)) k
def codeR (r:Nat):Int:=if r=2 then 8 else if r=3 then 5 else if r=4 then 19 else if r=5 then 15 else if r=7 then 22 else if r=8 then 17 else if r=9 then 18 else if r=10 then 21 else 0
def xy (qf:ByteArray)(l:List Rec):Nat->Nat->Option (Int×Int)
 | 0,_=>none
 | f+1,r=>match zq (QF qf l r) l.length with
   | some k=>some (k,codeR r)
   | none=>if r=5/\hasB l qf 6=false then some (-1,15) else if r=6/\hasB l qf 2=false then some (-1,16) else xy qf l f (r+1)
theorem has_rows {l:List Rec}{n:ByteArray}(hn:jN l)(hc:qo n=true)(t:Int):hasB l n t=true↔qJ l (qy n,t)≠[]:=by
 unfold hasB;rw[List.any_eq_true];constructor
 ·rintro⟨r,hr,h⟩ e;simp only[gX,H7]at h;have:=(zP (hn r hr) hc).1 h.2;have hm:r∈qJ l (qy n,t):=kD.2 ⟨hr,by unfold yh;rw[this,h.1]⟩;rw[e]at hm;simp at hm
 ·intro h;obtain⟨r,hr⟩:=List.exists_mem_of_ne_nil _ h;obtain⟨h1,h2⟩:=kD.1 hr;unfold yh at h2;simp only[Prod.mk.injEq]at h2;exact⟨r,h1,by rw[gF h2.2,(zP (hn r h1) hc).2 h2.1];rfl⟩
theorem has_soa {l:List Rec}{qf:ByteArray}(h:zq (Qj qf l) l.length=none):hasB l qf 6=false↔Qi l=0:=by
 rw[JZ,Bool.eq_false_iff];unfold hasB;rw[ne_eq,List.any_eq_true];constructor
 ·intro hh r hr h6;exact hh ⟨r,hr,by rw[gF h6,(ZA.1 h).2 r hr h6];rfl⟩
 ·rintro hh ⟨r,hr,h2⟩;simp only[gX,H7]at h2;exact hh r hr h2.1
theorem firstB_false (n:Nat):zq (λ_=>false) n=none:=vX λ_ _=>rfl
theorem kP {qf:ByteArray}{l:List Rec}{f r k:Nat}(h:zq (QF qf l r) l.length=some k):xy qf l (f+1) r=some ((k:Int),codeR r):=by
 rw[xy,h]
theorem jS {qf:ByteArray}{l:List Rec}{f r:Nat}(h:zq (QF qf l r) l.length=none):xy qf l (f+1) r=if r=5/\hasB l qf 6=false then some (-1,15) else if r=6/\hasB l qf 2=false then some (-1,16) else xy qf l f (r+1):=by
 rw[xy,h]
theorem chain_newE {qf:ByteArray}{l:List Rec}(hc:qo qf=true)(hl:¬2000<l.length):yG qf l=xy qf l 9 2:=by
 have e2:QF qf l 2=atB l jT:=rfl;have e3:QF qf l 3=atB l (λx=>!zI x.owner qf):=rfl;have e4:QF qf l 4=jP l:=rfl;have e5:QF qf l 5=Qj qf l:=rfl;have e6:QF qf l 6=λ_=>false:=rfl;have e7:QF qf l 7=atB l Zh:=rfl;have e8:QF qf l 8=atB l (YE (kZ l)):=rfl;have e9:QF qf l 9=atB l (xA (qy qf) (qJ l) (zD l)):=rfl;have e10:QF qf l 10=atB l (QS (qJ l)):=rfl;unfold yG;rw[if_neg (by rw[hc];simp),if_neg hl];unfold kz
 cases h2:zq (atB l jT) l.length with
 | some k=>rw[kP (f:=8) (r:=2) (by rw[e2];exact h2)];rfl
 | none=>
   have hn:jN l:=λr hr=>by
    have:=vE.1 h2 r hr;unfold jT at this
    cases hh:qo r.owner
    ·rw[hh]at this;simp at this
    ·rfl
   rw[jS (f:=8) (r:=2) (by rw[e2];exact h2)];simp only[show ¬(2=5/\hasB l qf 6=false) from λh=>by omega,show ¬(2=6/\hasB l qf 2=false) from λh=>by omega,if_false]
   cases h3:zq (atB l λr=>!zI r.owner qf) l.length with
   | some k=>rw[kP (f:=7) (r:=3) (by rw[e3];exact h3)];rfl
   | none=>
     rw[jS (f:=7) (r:=3) (by rw[e3];exact h3)];simp only[show ¬(3=5/\hasB l qf 6=false) from λh=>by omega,show ¬(3=6/\hasB l qf 2=false) from λh=>by omega,if_false];unfold zS
     cases h4:zq (jP l) l.length with
     | some k=>rw[kP (f:=6) (r:=4) (by rw[e4];exact h4)];rfl
     | none=>
       rw[jS (f:=6) (r:=4) (by rw[e4];exact h4)];simp only[show ¬(4=5/\hasB l qf 6=false) from λh=>by omega,show ¬(4=6/\hasB l qf 2=false) from λh=>by omega,if_false]
       cases h5:zq (Qj qf l) l.length with
       | some k=>rw[kP (f:=5) (r:=5) (by rw[e5];exact h5)];rfl
       | none=>
         rw[jS (f:=5) (r:=5) (by rw[e5];exact h5)];simp only;by_cases s0:Qi l=0
         ·rw[if_pos s0,if_pos ⟨by trivial,(has_soa h5).2 s0⟩]
         ·have q56:¬(5=6/\hasB l qf 2=false):=λh=>by omega
          have q65:¬(6=5/\hasB l qf 6=false):=λh=>by omega
          have q5:¬(True/\hasB l qf 6=false):=λh=>s0 ((has_soa h5).1 h.2);rw[if_neg s0,if_neg q5,if_neg q56,jS (f:=4) (r:=6) (by rw[e6];exact firstB_false _),if_neg q65];by_cases n0:(qJ l (qy qf,2)).length=0
          ·have:hasB l qf 2=false:=by
            rw[Bool.eq_false_iff];intro h;exact(has_rows hn hc 2).1 h (Hm n0)
           rw[if_pos n0,if_pos ⟨by trivial,this⟩]
          ·have:¬hasB l qf 2=false:=by
            intro h;have h2:=(has_rows hn hc 2).2 (λe=>n0 (by rw[e];rfl));rw[h]at h2
            cases h2
           rw[if_neg n0,if_neg (λh=>this h.2)]
           cases h7:zq (atB l Zh) l.length with
           | some k=>rw[kP (f:=3) (r:=7) (by rw[e7];exact h7)];rfl
           | none=>
             rw[jS (f:=3) (r:=7) (by rw[e7];exact h7)];simp only[show ¬(7=5/\hasB l qf 6=false) from λh=>by omega,show ¬(7=6/\hasB l qf 2=false) from λh=>by omega,if_false]
             cases h8:zq (atB l (YE (kZ l))) l.length with
             | some k=>rw[kP (f:=2) (r:=8) (by rw[e8];exact h8)];rfl
             | none=>
               rw[jS (f:=2) (r:=8) (by rw[e8];exact h8)];simp only[show ¬(8=5/\hasB l qf 6=false) from λh=>by omega,show ¬(8=6/\hasB l qf 2=false) from λh=>by omega,if_false]
               cases h9:zq (atB l (xA (qy qf) (qJ l) (zD l))) l.length with
               | some k=>rw[kP (f:=1) (r:=9) (by rw[e9];exact h9)];rfl
               | none=>
                 rw[jS (f:=1) (r:=9) (by rw[e9];exact h9)];simp only[show ¬(9=5/\hasB l qf 6=false) from λh=>by omega,show ¬(9=6/\hasB l qf 2=false) from λh=>by omega,if_false]
                 cases h10:zq (atB l (QS (qJ l))) l.length with
                 | some k=>rw[kP (f:=0) (r:=10) (by rw[e10];exact h10)];rfl
                 | none=>
                   rw[jS (f:=0) (r:=10) (by rw[e10];exact h10)];simp only[show ¬(10=5/\hasB l qf 6=false) from λh=>by omega,show ¬(10=6/\hasB l qf 2=false) from λh=>by omega,if_false];rfl
theorem chain_hit {qf:ByteArray}{l:List Rec}{f r k:Nat}(hk:k<l.length)(h:QF qf l r k=true)(hb:∀j,j<k->QF qf l r j=false):xy qf l (f+1) r=some ((k:Int),codeR r):=by
 rw[kP (Xm hk h hb)]
theorem chain_miss {qf:ByteArray}{l:List Rec}{f r:Nat}(h:∀j,j<l.length->QF qf l r j=false):xy qf l (f+1) r=if r=5/\hasB l qf 6=false then some (-1,15) else if r=6/\hasB l qf 2=false then some (-1,16) else xy qf l f (r+1):=by
 rw[jS (vX h)]
end zn
theorem rbreaks_any (qf:ByteArray)(hap:qo qf=true)(l:List Rec)(k:Nat)(hk:k<l.length)(hl:l.length<=2000)(hsz:∀r∈l,r.owner.size<=1099511627776)(r:Nat)(h2:2<=r)(h10:r<=10)(hn:4<=r->zn.jN l)(v:Value)(w:World)(hrv:ql w v l):
 Calls Tryz.prog 81 #[.int .i64 (r:Int),.string qf,v,.int .i64 k] w λe w'=>e= .returned (.bool (zn.QF qf l r k))/\Below w.heap.size w w':=by
 have UX:qf.size<=1099511627776:=by have:=qV hap;omega
 match r,h2,h10 with
 | 2,_,_=>
   have e:zn.QF qf l 2 k=zn.jT l[k]:=zn.uP hk;rw[e];exact rbreaks_2 qf l k hk hl hsz v w hrv
 | 3,_,_=>
   have e:zn.QF qf l 3 k=(λx:Rec=>!zI x.owner qf) l[k]:=zn.uP hk;rw[e];exact rbreaks_3 qf UX l k hk hl hsz v w hrv
 | 4,_,_=>exact rbreaks_4 qf l k hk hl (hn (by omega)) v w hrv
 | 5,_,_=>exact rbreaks_5 qf UX l k hk hl (hn (by omega)) v w hrv
 | 6,_,_=>exact rbreaks_6 qf l k hk hl (hn (by omega)) v w hrv
 | 7,_,_=>
   have e:zn.QF qf l 7 k=zn.Zh l[k]:=zn.uP hk;rw[e];exact rbreaks_7 qf l k hk hl (hn (by omega)) v w hrv
 | 8,_,_=>
   have e:zn.QF qf l 8 k=(zn.YE (zn.kZ l)) l[k]:=zn.uP hk;rw[e];exact rbreaks_8 qf l k hk hl (hn (by omega)) v w hrv
 | 9,_,_=>
   have e:zn.QF qf l 9 k=(zn.xA (qy qf) (zn.qJ l) (zn.zD l)) l[k]:=zn.uP hk;rw[e];exact rbreaks_9 qf hap l k hk hl (hn (by omega)) v w hrv
 | 10,_,_=>
   have e:zn.QF qf l 10 k=(zn.QS (zn.qJ l)) l[k]:=zn.uP hk;rw[e];exact rbreaks_10 qf l k hk hl (hn (by omega)) v w hrv
def uQ (w:World)(z:Nat)(qf:ByteArray)(L:List Rec):Prop:=
 ∃g cap,w.heap[z]? =some (.cells #[.string qf,.slice (some ⟨g,0,none⟩) L.length cap] 58 (0,0))/\ql w (.slice (some ⟨g,0,none⟩) L.length cap) L
theorem uQ.below {w w':World}{z:Nat}{qf:ByteArray}{L:List Rec}(h:uQ w z qf L)(hb:Below w.heap.size w w'):uQ w' z qf L:=by
 obtain⟨g,cap,h1,h2⟩:=h;exact⟨g,cap,(hb.block z (qA h1)).trans h1,h2.below hb⟩
def RMake (qf:ByteArray)(l:List Rec)(w:World)(e:Ending)(w':World):Prop:=Below w.heap.size w w'/\match zn.yG qf l with
 | some (k,c)=>e= .returned (.tuple #[.pointer none,.int .i64 k,.int .i64 c])
 | none=>∃z L,zL l L/\e= .returned (.tuple #[.pointer (some ⟨z,0,none⟩),.int .i64 0,.int .i64 0])/\uQ w' z qf L
theorem RMake.bad {qf:ByteArray}{l:List Rec}{w w':World}{k c:Int}(h:zn.yG qf l=some (k,c))(hB:Below w.heap.size w w'):RMake qf l w (.returned (.tuple #[.pointer none,.int .i64 k,.int .i64 c])) w':=by
 refine⟨hB,?_⟩;rw[h]
theorem RMake.good {qf:ByteArray}{l L:List Rec}{w w':World}{z:Nat}(h:zn.yG qf l=none)(hB:Below w.heap.size w w')(hs:zL l L)(hz:uQ w' z qf L):RMake qf l w (.returned (.tuple #[.pointer (some ⟨z,0,none⟩),.int .i64 0,.int .i64 0])) w':=by
 refine⟨hB,?_⟩;rw[h];exact⟨z,L,hs,rfl,hz⟩
def codesC:Array Value:=#[.int .i64 0,.int .i64 0,.int .i64 8,.int .i64 5,.int .i64 19,.int .i64 15,.int .i64 0,.int .i64 22,.int .i64 17,.int .i64 18,.int .i64 21]
theorem codes_at {w:World}{b:Nat}(h:w.heap[b]? =some (.cells codesC 47 (0,0)))(r:Nat)(h2:2<=r)(h10:r<=10):w.cell? ⟨b,r,none⟩=some (.int .i64 (zn.codeR r)):=by
 rw[qg h]
 match r,h2,h10 with
 | 2,_,_=>rfl
 | 3,_,_=>rfl
 | 4,_,_=>rfl
 | 5,_,_=>rfl
 | 6,_,_=>rfl
 | 7,_,_=>rfl
 | 8,_,_=>rfl
 | 9,_,_=>rfl
 | 10,_,_=>rfl
end Go.Proofs.YtpcmilhjpmlbpaaGreatDoor
