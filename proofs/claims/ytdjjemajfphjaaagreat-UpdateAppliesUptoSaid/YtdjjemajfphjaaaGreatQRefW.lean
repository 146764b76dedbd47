import Derived.Test.YtdjjemajfphjaaaGreatQRefU
set_option maxRecDepth 100000
set_option maxHeartbeats 4000000
namespace Go.Proofs.YtdjjemajfphjaaaGreat
open Go.RowKit Go.Shelf nm od
theorem rbreaks_6 (qf:ByteArray)(l:List Rec)(k:Nat)(hk:k<l.length)(_hl:l.length≤2000)(hn:zn.jH l)(v:Value)(w:World)(hrv:qy w v l):
 Calls Tryz.prog 62 #[.int .i64 6,.string qf,v,.int .i64 k] w fun e w'=>e= .returned (.bool false)∧Below w.heap.size w w':=by
 have hsz:∀r∈l,r.owner.size≤1099511627776:=fun r hr=>by have:=qP (hn r hr);omega
 obtain⟨b,off,cap,rfl,hcap⟩:=uG hrv hk
 obtain⟨hb,c0,c1,c2,c3,c4⟩:=zo hrv hk
 have hki:(k:Int)<(l.length:Int):=by omega
 obtain⟨w1,hw1⟩:∃W,W=w.alloc (.cells (recC l[k]).toArray 51):=⟨_,rfl⟩
 obtain⟨hB1,hz1,hx⟩:=qM w w1 l[k] hw1
 have vV:=hrv.below hB1
 have lt1:w.heap.size<w1.heap.size:=by omega
 have hso:=hsz l[k] (List.getElem_mem hk)
 obtain⟨x0,x1,x2,x3,x4⟩:=id hx
 have HW1:=Lib.hid hw1;have HB1:=Lib.hid hB1;have HZ1:=Lib.hid hz1;have HX:=Lib.hid hx;have HRV:=Lib.hid hrv;have Zv:=Lib.hid vV;have HSZ:=Lib.hid hsz
 clear hw1 hB1 hz1 hx hrv vV hsz
 have hs1:=HB1.out.size
 go_enter Tryz.func62,Tryz.ntmps62
 go_wp2_with fail
 go_ret
 exact⟨rfl,by rw[← HW1.out];exact HB1.out⟩
theorem rbreaks_7 (qf:ByteArray)(l:List Rec)(k:Nat)(hk:k<l.length)(_hl:l.length≤2000)(hn:zn.jH l)(v:Value)(w:World)(hrv:qy w v l):
 Calls Tryz.prog 62 #[.int .i64 7,.string qf,v,.int .i64 k] w fun e w'=>e= .returned (.bool (zn.QQ l[k]))∧Below w.heap.size w w':=by
 have hsz:∀r∈l,r.owner.size≤1099511627776:=fun r hr=>by have:=qP (hn r hr);omega
 obtain⟨b,off,cap,rfl,hcap⟩:=uG hrv hk
 obtain⟨hb,c0,c1,c2,c3,c4⟩:=zo hrv hk
 have hki:(k:Int)<(l.length:Int):=by omega
 obtain⟨w1,hw1⟩:∃W,W=w.alloc (.cells (recC l[k]).toArray 51):=⟨_,rfl⟩
 obtain⟨hB1,hz1,hx⟩:=qM w w1 l[k] hw1
 have vV:=hrv.below hB1
 have lt1:w.heap.size<w1.heap.size:=by omega
 have hso:=hsz l[k] (List.getElem_mem hk)
 obtain⟨x0,x1,x2,x3,x4⟩:=id hx
 have HW1:=Lib.hid hw1;have HB1:=Lib.hid hB1;have HZ1:=Lib.hid hz1;have HX:=Lib.hid hx;have HRV:=Lib.hid hrv;have Zv:=Lib.hid vV;have HSZ:=Lib.hid hsz
 clear hw1 hB1 hz1 hx hrv vV hsz
 have hs1:=HB1.out.size
 by_cases h2:l[k].typ=2
 ·have b2:(l[k].typ == 2)=true:=by rw[beq_iff_eq];exact h2
  have hr:zn.QQ l[k]=kP l[k].owner:=by unfold zn.QQ;rw[decide_eq_true h2];simp
  have H2:=Lib.hid h2;have HR:=Lib.hid hr
  clear h2 hr
  go_enter Tryz.func62,Tryz.ntmps62
  go_wp2_with fail
  rw[← HW1.out]
  refine(Vu _ hso _).mono ?_
  rintro e w2 ⟨rfl,hB2⟩
  have HB2:=Lib.hid (HB1.out.trans (hB2.mono HB1.out.size))
  clear hB2
  go_wp2_with fail
  go_ret
  exact⟨qA HR.out.symm,HB2.out⟩
 ·have b2:(l[k].typ == 2)=false:=by rw[beq_eq_false_iff_ne];exact h2
  by_cases h39:l[k].typ=39
  ·have b3:(l[k].typ == 39)=true:=by rw[beq_iff_eq];exact h39
   have hr:zn.QQ l[k]=kP l[k].owner:=by unfold zn.QQ;rw[decide_eq_true h39];simp
   have H2:=Lib.hid h2;have H39:=Lib.hid h39;have HR:=Lib.hid hr
   clear h2 h39 hr
   go_enter Tryz.func62,Tryz.ntmps62
   go_wp2_with fail
   rw[← HW1.out]
   refine(Vu _ hso _).mono ?_
   rintro e w2 ⟨rfl,hB2⟩
   have HB2:=Lib.hid (HB1.out.trans (hB2.mono HB1.out.size))
   clear hB2
   go_wp2_with fail
   go_ret
   exact⟨qA HR.out.symm,HB2.out⟩
  ·have b3:(l[k].typ == 39)=false:=by rw[beq_eq_false_iff_ne];exact h39
   have hr:zn.QQ l[k]=false:=by unfold zn.QQ;rw[decide_eq_false h2,decide_eq_false h39];rfl
   have H2:=Lib.hid h2;have H39:=Lib.hid h39;have HR:=Lib.hid hr
   clear h2 h39 hr
   go_enter Tryz.func62,Tryz.ntmps62
   go_wp2_with fail
   go_ret
   exact⟨qA HR.out.symm,by rw[← HW1.out];exact HB1.out⟩
theorem rbreaks_8 (qf:ByteArray)(l:List Rec)(k:Nat)(hk:k<l.length)(hl:l.length≤2000)(hn:zn.jH l)(v:Value)(w:World)(hrv:qy w v l):
 Calls Tryz.prog 62 #[.int .i64 8,.string qf,v,.int .i64 k] w fun e w'=>e= .returned (.bool (zn.ZX (zn.uj l) l[k]))∧Below w.heap.size w w':=by
 have hsz:∀r∈l,r.owner.size≤1099511627776:=fun r hr=>by have:=qP (hn r hr);omega
 obtain⟨b,off,cap,rfl,hcap⟩:=uG hrv hk
 obtain⟨hb,c0,c1,c2,c3,c4⟩:=zo hrv hk
 have hki:(k:Int)<(l.length:Int):=by omega
 obtain⟨w1,hw1⟩:∃W,W=w.alloc (.cells (recC l[k]).toArray 51):=⟨_,rfl⟩
 obtain⟨hB1,hz1,hx⟩:=qM w w1 l[k] hw1
 have vV:=hrv.below hB1
 have lt1:w.heap.size<w1.heap.size:=by omega
 have hso:=hsz l[k] (List.getElem_mem hk)
 obtain⟨x0,x1,x2,x3,x4⟩:=id hx
 have HW1:=Lib.hid hw1;have HB1:=Lib.hid hB1;have HZ1:=Lib.hid hz1;have HX:=Lib.hid hx;have HRV:=Lib.hid hrv;have Zv:=Lib.hid vV;have HSZ:=Lib.hid hsz
 clear hw1 hB1 hz1 hx hrv vV hsz
 have hs1:=HB1.out.size
 have HN:=Lib.hid hn
 clear hn
 go_enter Tryz.func62,Tryz.ntmps62
 go_wp2_with fail
 rw[← HW1.out]
 clear c0 c1 c2 c3 c4 x0 x1 x2 x3 x4
 go_loopw [110,12] (fun jv _ wr=>∃j:Nat,j≤l.length∧jv= .int .i64 (j:Int)∧(∀i (hi:i<l.length),i<j→i≠k→¬(l[k].typ=5∧qz l[i].owner l[k].owner=true∧l[i].typ≠46∧l[i].typ≠47))∧Below w1.heap.size w1 wr) (fun jv _ _=>l.length-(intOf jv).toNat)
 case atStart=>exact⟨0,Nat.zero_le _,rfl,(fun i hi h=>by omega),Below.refl _ _⟩
 case round=>
  obtain⟨j,hj,rfl,hno,hB⟩:=hrel
  by_cases hjl:j<l.length
  ·have hji:(j:Int)<(l.length:Int):=by omega
   obtain⟨hb',ra⟩:=zo Zv.out hjl
   obtain⟨y0,y1,y2,y3,y4⟩:=ra.keep (hB.block _ hb')
   obtain⟨x0,x1,x2,x3,x4⟩:=HX.out.keep (hB.block _ lt1)
   have e0:=qh y0
   have e1:=qh y1
   have e3:=qh y3
   have f0:=qh x0
   have f1:=qh x1
   have f3:=qh x3
   have sj:=HSZ.out _ (List.getElem_mem hjl)
   have hsr:=hB.size
   clear x0 x1 x2 x3 x4 y0 y1 y2 y3 y4
   by_cases h5:l[k].typ=5
   ·have b5:(l[k].typ == 5)=true:=by rw[beq_iff_eq];exact h5
    by_cases hjk:j=k
    ·have bj:((j:Int) != (k:Int))=false:=by rw[hjk];simp
     have yR:∀i (hi:i<l.length),i<j+1→i≠k→¬(l[k].typ=5∧qz l[i].owner l[k].owner=true∧l[i].typ≠46∧l[i].typ≠47):=fun i hi h hne=>by
      rcases Nat.lt_or_ge i j with h' | h'
      ·exact hno i hi h' hne
      ·exact absurd (show i=k by omega) hne
     have CE:Hid True:=Lib.hid trivial
     have H5:=Lib.hid h5;have HJK:=Lib.hid hjk
     clear h5 hjk
     have HNO:=Lib.hid hno;have HB:=Lib.hid hB;have uO:=Lib.hid yR
     clear hno hB yR
     go_wp2_with fail
     refine qj (by kernel_rfl) (by kernel_rfl) ?_
     repeat (with_reducible refine wpQuiet_step (fun K hK=>?_);go_simp;(try simp only[undef]);first | (with_reducible refine hK _ ?_;clear hK K) | (apply Exists.intro;refine⟨fun _=>?_,hK _ ?_⟩;(first | (fail));clear hK K) | (with_reducible refine⟨fun _ h=>(by cases h),?_⟩;with_reducible refine hK _ ?_;clear hK K))
     refine wpQuiet_nil ?_
     (try simp only[show Value.tuple #[]=undef from rfl])
     intro W hW
     have hBW:Below wr.heap.size wr W:=by obtain⟨g,rfl⟩:=hW;exact qp _ g
     clear hW
     have HBW:=Lib.hid (HB.out.trans (hBW.mono hsr))
     clear hBW
     go_wp2_with fail
     go_roundw
     case rel=>exact⟨j+1,by omega,by go_num,uO.out,HBW.out⟩
     case measure=>simp[intOf];omega
    ·have bj:((j:Int) != (k:Int))=true:=by rw[bne_iff_ne];omega
     cases he:qz l[j].owner l[k].owner
     ·have yR:∀i (hi:i<l.length),i<j+1→i≠k→¬(l[k].typ=5∧qz l[i].owner l[k].owner=true∧l[i].typ≠46∧l[i].typ≠47):=fun i hi h hne=>by
       rcases Nat.lt_or_ge i j with h' | h'
       ·exact hno i hi h' hne
       ·obtain rfl:i=j:=by omega
        rintro⟨_,h2,_⟩
        rw[he]at h2
        cases h2
      have CE:Hid (∀g,Calls Tryz.prog 35 #[.string l[j].owner,.string l[k].owner] (gw wr g) fun e w''=>e= .returned (.bool false)∧∃g',w''=gw wr g'):=Lib.hid fun g=>qL (by rw[← he];exact zk _ _ sj hso _)
      have H5:=Lib.hid h5;have HE:=Lib.hid he
      clear h5 he
      have HNO:=Lib.hid hno;have HB:=Lib.hid hB;have uO:=Lib.hid yR
      clear hno hB yR
      go_wp2_with fail
      refine qj (by kernel_rfl) (by kernel_rfl) ?_
      repeat (with_reducible refine wpQuiet_step (fun K hK=>?_);go_simp;(try simp only[undef]);first | (with_reducible refine hK _ ?_;clear hK K) | (apply Exists.intro;refine⟨fun _=>?_,hK _ ?_⟩;(first | (go_at_call 35;with_reducible exact CE.out _));clear hK K) | (with_reducible refine⟨fun _ h=>(by cases h),?_⟩;with_reducible refine hK _ ?_;clear hK K))
      refine wpQuiet_nil ?_
      (try simp only[show Value.tuple #[]=undef from rfl])
      intro W hW
      have hBW:Below wr.heap.size wr W:=by obtain⟨g,rfl⟩:=hW;exact qp _ g
      clear hW
      have HBW:=Lib.hid (HB.out.trans (hBW.mono hsr))
      clear hBW
      go_wp2_with fail
      go_roundw
      case rel=>exact⟨j+1,by omega,by go_num,uO.out,HBW.out⟩
      case measure=>simp[intOf];omega
     ·by_cases h46:l[j].typ=46
      ·have b46:(l[j].typ != 46)=false:=by rw[h46];rfl
       have yR:∀i (hi:i<l.length),i<j+1→i≠k→¬(l[k].typ=5∧qz l[i].owner l[k].owner=true∧l[i].typ≠46∧l[i].typ≠47):=fun i hi h hne=>by
        rcases Nat.lt_or_ge i j with h' | h'
        ·exact hno i hi h' hne
        ·obtain rfl:i=j:=by omega
         rintro⟨_,_,h2,_⟩
         exact h2 h46
       have CE:Hid (∀g,Calls Tryz.prog 35 #[.string l[j].owner,.string l[k].owner] (gw wr g) fun e w''=>e= .returned (.bool true)∧∃g',w''=gw wr g'):=Lib.hid fun g=>qL (by rw[← he];exact zk _ _ sj hso _)
       have H5:=Lib.hid h5;have HE:=Lib.hid he;have H46:=Lib.hid h46
       clear h5 he h46
       have HNO:=Lib.hid hno;have HB:=Lib.hid hB;have uO:=Lib.hid yR
       clear hno hB yR
       go_wp2_with fail
       refine qj (by kernel_rfl) (by kernel_rfl) ?_
       repeat (with_reducible refine wpQuiet_step (fun K hK=>?_);go_simp;(try simp only[undef]);first | (with_reducible refine hK _ ?_;clear hK K) | (apply Exists.intro;refine⟨fun _=>?_,hK _ ?_⟩;(first | (go_at_call 35;with_reducible exact CE.out _));clear hK K) | (with_reducible refine⟨fun _ h=>(by cases h),?_⟩;with_reducible refine hK _ ?_;clear hK K))
       refine wpQuiet_nil ?_
       (try simp only[show Value.tuple #[]=undef from rfl])
       intro W hW
       have hBW:Below wr.heap.size wr W:=by obtain⟨g,rfl⟩:=hW;exact qp _ g
       clear hW
       have HBW:=Lib.hid (HB.out.trans (hBW.mono hsr))
       clear hBW
       go_wp2_with fail
       go_roundw
       case rel=>exact⟨j+1,by omega,by go_num,uO.out,HBW.out⟩
       case measure=>simp[intOf];omega
      ·have b46:(l[j].typ != 46)=true:=by rw[bne_iff_ne];exact h46
       by_cases h47:l[j].typ=47
       ·have b47:(l[j].typ != 47)=false:=by rw[h47];rfl
        have yR:∀i (hi:i<l.length),i<j+1→i≠k→¬(l[k].typ=5∧qz l[i].owner l[k].owner=true∧l[i].typ≠46∧l[i].typ≠47):=fun i hi h hne=>by
         rcases Nat.lt_or_ge i j with h' | h'
         ·exact hno i hi h' hne
         ·obtain rfl:i=j:=by omega
          rintro⟨_,_,_,h2⟩
          exact h2 h47
        have CE:Hid (∀g,Calls Tryz.prog 35 #[.string l[j].owner,.string l[k].owner] (gw wr g) fun e w''=>e= .returned (.bool true)∧∃g',w''=gw wr g'):=Lib.hid fun g=>qL (by rw[← he];exact zk _ _ sj hso _)
        have H5:=Lib.hid h5;have HE:=Lib.hid he;have H46:=Lib.hid h46;have H47:=Lib.hid h47
        clear h5 he h46 h47
        have HNO:=Lib.hid hno;have HB:=Lib.hid hB;have uO:=Lib.hid yR
        clear hno hB yR
        go_wp2_with fail
        refine qj (by kernel_rfl) (by kernel_rfl) ?_
        repeat (with_reducible refine wpQuiet_step (fun K hK=>?_);go_simp;(try simp only[undef]);first | (with_reducible refine hK _ ?_;clear hK K) | (apply Exists.intro;refine⟨fun _=>?_,hK _ ?_⟩;(first | (go_at_call 35;with_reducible exact CE.out _));clear hK K) | (with_reducible refine⟨fun _ h=>(by cases h),?_⟩;with_reducible refine hK _ ?_;clear hK K))
        refine wpQuiet_nil ?_
        (try simp only[show Value.tuple #[]=undef from rfl])
        intro W hW
        have hBW:Below wr.heap.size wr W:=by obtain⟨g,rfl⟩:=hW;exact qp _ g
        clear hW
        have HBW:=Lib.hid (HB.out.trans (hBW.mono hsr))
        clear hBW
        go_wp2_with fail
        go_roundw
        case rel=>exact⟨j+1,by omega,by go_num,uO.out,HBW.out⟩
        case measure=>simp[intOf];omega
       ·have b47:(l[j].typ != 47)=true:=by rw[bne_iff_ne];exact h47
        have hres:zn.ZX (zn.uj l) l[k]=true:=zn.bad4_hit hk hjl hjk h5 HN.out he h46 h47
        have CE:Hid (∀g,Calls Tryz.prog 35 #[.string l[j].owner,.string l[k].owner] (gw wr g) fun e w''=>e= .returned (.bool true)∧∃g',w''=gw wr g'):=Lib.hid fun g=>qL (by rw[← he];exact zk _ _ sj hso _)
        have H5:=Lib.hid h5;have HE:=Lib.hid he;have H46:=Lib.hid h46;have H47:=Lib.hid h47;have HNO:=Lib.hid hno;have HB:=Lib.hid hB;have zb:=Lib.hid hres
        clear h5 he h46 h47 hno hB hres
        go_wp2_with fail
        refine qj (by kernel_rfl) (by kernel_rfl) ?_
        repeat (with_reducible refine wpQuiet_step (fun K hK=>?_);go_simp;(try simp only[undef]);first | (with_reducible refine hK _ ?_;clear hK K) | (apply Exists.intro;refine⟨fun _=>?_,hK _ ?_⟩;(first | (go_at_call 35;with_reducible exact CE.out _));clear hK K) | (with_reducible refine⟨fun _ h=>(by cases h),?_⟩;with_reducible refine hK _ ?_;clear hK K))
        refine wpQuiet_nil ?_
        (try simp only[show Value.tuple #[]=undef from rfl])
        intro W hW
        have hBW:Below wr.heap.size wr W:=by obtain⟨g,rfl⟩:=hW;exact qp _ g
        clear hW
        have HBW:=Lib.hid (HB1.out.trans ((HB.out.trans (hBW.mono hsr)).mono hs1))
        clear hBW
        go_wp2_with fail
        go_ret
        exact⟨qA zb.out.symm,HBW.out⟩
   ·have b5:(l[k].typ == 5)=false:=by rw[beq_eq_false_iff_ne];exact h5
    have yR:∀i (hi:i<l.length),i<j+1→i≠k→¬(l[k].typ=5∧qz l[i].owner l[k].owner=true∧l[i].typ≠46∧l[i].typ≠47):=fun i hi h hne h2=>h5 h2.1
    have H5:=Lib.hid h5;have HNO:=Lib.hid hno;have HB:=Lib.hid hB;have uO:=Lib.hid yR
    clear h5 hno hB yR
    go_wp2_with fail
    refine qj (by kernel_rfl) (by kernel_rfl) ?_
    repeat (with_reducible refine wpQuiet_step (fun K hK=>?_);go_simp;(try simp only[undef]);first | (with_reducible refine hK _ ?_;clear hK K) | (apply Exists.intro;refine⟨fun _=>?_,hK _ ?_⟩;(first | (fail));clear hK K) | (with_reducible refine⟨fun _ h=>(by cases h),?_⟩;with_reducible refine hK _ ?_;clear hK K))
    refine wpQuiet_nil ?_
    (try simp only[show Value.tuple #[]=undef from rfl])
    intro W hW
    have hBW:Below wr.heap.size wr W:=by obtain⟨g,rfl⟩:=hW;exact qp _ g
    clear hW
    have HBW:=Lib.hid (HB.out.trans (hBW.mono hsr))
    clear hBW
    go_wp2_with fail
    go_roundw
    case rel=>exact⟨j+1,by omega,by go_num,uO.out,HBW.out⟩
    case measure=>simp[intOf];omega
  ·obtain rfl:j=l.length:=by omega
   have hres:zn.ZX (zn.uj l) l[k]=false:=by
    by_cases h5:l[k].typ=5
    ·exact zn.bad4_miss hk HN.out (fun j hj hne h=>hno j hj hj hne ⟨h5,h.1,h.2.1,h.2.2⟩)
    ·exact zn.bad4_other h5
   have HBE:=Lib.hid (HB1.out.trans (hB.mono hs1))
   have HNO:=Lib.hid hno;have HB:=Lib.hid hB;have zb:=Lib.hid hres
   clear hno hB hres
   go_wp2_with fail
   go_ret
   exact⟨qA zb.out.symm,HBE.out⟩
end Go.Proofs.YtdjjemajfphjaaaGreat
namespace Go.Proofs.YtdjjemajfphjaaaGreat
open Go.RowKit Go.Shelf nm od
theorem rbreaks_9 (qf:ByteArray)(hap:ql qf=true)(l:List Rec)(k:Nat)(hk:k<l.length)(hl:l.length≤2000)(hn:zn.jH l)(v:Value)(w:World)(hrv:qy w v l):
 Calls Tryz.prog 62 #[.int .i64 9,.string qf,v,.int .i64 k] w fun e w'=>e= .returned (.bool (zn.xc (qm qf) (zn.qD l) (zn.zD l) l[k]))∧Below w.heap.size w w':=by
 have K7:qf.size≤1099511627776:=by have:=qP hap;omega
 have hsz:∀r∈l,r.owner.size≤1099511627776:=fun r hr=>by have:=qP (hn r hr);omega
 obtain⟨b,off,cap,rfl,hcap⟩:=uG hrv hk
 obtain⟨hb,c0,c1,c2,c3,c4⟩:=zo hrv hk
 have hki:(k:Int)<(l.length:Int):=by omega
 obtain⟨w1,hw1⟩:∃W,W=w.alloc (.cells (recC l[k]).toArray 51):=⟨_,rfl⟩
 obtain⟨hB1,hz1,hx⟩:=qM w w1 l[k] hw1
 have vV:=hrv.below hB1
 have lt1:w.heap.size<w1.heap.size:=by omega
 have hso:=hsz l[k] (List.getElem_mem hk)
 obtain⟨x0,x1,x2,x3,x4⟩:=id hx
 have HW1:=Lib.hid hw1;have HB1:=Lib.hid hB1;have HZ1:=Lib.hid hz1;have HX:=Lib.hid hx;have HRV:=Lib.hid hrv;have Zv:=Lib.hid vV;have HSZ:=Lib.hid hsz
 clear hw1 hB1 hz1 hx hrv vV hsz
 have hs1:=HB1.out.size
 by_cases h39:l[k].typ=39
 ·have b39:(l[k].typ != 39)=false:=by rw[h39];rfl
  have HN:=Lib.hid hn;have H39:=Lib.hid h39;have HAP:=Lib.hid hap
  clear hn h39 hap
  go_enter Tryz.func62,Tryz.ntmps62
  go_wp2_with fail
  rw[← HW1.out]
  clear c0 c1 c2 c3 c4 x1 x2 x3 x4
  go_loopw [155,13,14] (fun jv _ _ wr=>∃j:Nat,j≤l.length∧jv= .int .i64 (j:Int)∧(∀i (hi:i<l.length),i<j→zn.U3 k i l[k] l[i]=false)∧Below w1.heap.size w1 wr) (fun jv _ _ _=>l.length-(intOf jv).toNat)
  case atStart=>exact⟨0,Nat.zero_le _,rfl,(fun i hi h=>by omega),Below.refl _ _⟩
  case round=>
   obtain⟨j,hj,rfl,hno,hB⟩:=hrel
   by_cases hjl:j<l.length
   ·have hji:(j:Int)<(l.length:Int):=by omega
    obtain⟨hb',ra⟩:=zo Zv.out hjl
    obtain⟨y0,y1,y2,y3,y4⟩:=ra.keep (hB.block _ hb')
    obtain⟨x0,x1,x2,x3,x4⟩:=HX.out.keep (hB.block _ lt1)
    have e0:=qh y0
    have e1:=qh y1
    have e3:=qh y3
    have f0:=qh x0
    have f1:=qh x1
    have f3:=qh x3
    have sj:=HSZ.out _ (List.getElem_mem hjl)
    have hsr:=hB.size
    clear x0 x1 x2 x3 x4 y0 y1 y2 y3 y4
    have hnx:zn.U3 k j l[k] l[j]=false→∀i (hi:i<l.length),i<j+1→zn.U3 k i l[k] l[i]=false:=fun h9 i hi h=>by
     rcases Nat.lt_or_ge i j with h' | h'
     ·exact hno i hi h'
     ·obtain rfl:i=j:=by omega
      exact h9
    cases he:qz l[j].owner l[k].owner
    ·have CE:Hid (∀g,Calls Tryz.prog 35 #[.string l[j].owner,.string l[k].owner] (gw wr g) fun e w''=>e= .returned (.bool false)∧∃g',w''=gw wr g'):=Lib.hid fun g=>qL (by rw[← he];exact zk _ _ sj hso _)
     cases hwi:qU l[j].owner l[k].owner
     ·have yR:=hnx (by unfold zn.U3;rw[he,hwi];simp)
      by_cases hjk:j=k
      ·have bj:((j:Int) != (k:Int))=false:=by rw[hjk];simp
       have CW:Hid (∀(W:World) g,Calls Tryz.prog 77 #[.string l[j].owner,.string l[k].owner] (gw W g) fun e w''=>e= .returned (.bool false)∧∃g',w''=gw W g'):=Lib.hid fun W g=>qL (by rw[← hwi];exact jL _ _ sj hso _)
       have HNO:=Lib.hid hno;have HB:=Lib.hid hB;have uO:=Lib.hid yR;have HE:=Lib.hid he;have HJK:=Lib.hid hjk;have HWI:=Lib.hid hwi
       clear hno hB yR he hjk hwi
       clear hnx
       go_wp2_with fail
       refine qj (by kernel_rfl) (by kernel_rfl) ?_
       repeat (with_reducible refine wpQuiet_step (fun K hK=>?_);go_simp;(try simp only[undef]);first | (with_reducible refine hK _ ?_;clear hK K) | (apply Exists.intro;refine⟨fun _=>?_,hK _ ?_⟩;(first | (go_at_call 35;with_reducible exact CE.out _));clear hK K) | (with_reducible refine⟨fun _ h=>(by cases h),?_⟩;with_reducible refine hK _ ?_;clear hK K))
       refine wpQuiet_nil ?_
       (try simp only[show Value.tuple #[]=undef from rfl])
       intro W hW
       have hBW:Below wr.heap.size wr W:=by obtain⟨g,rfl⟩:=hW;exact qp _ g
       clear hW
       have HBW:=Lib.hid (HB.out.trans (hBW.mono hsr))
       clear hBW
       obtain⟨y0,y1,y2,y3,y4⟩:=(zo Zv.out hjl).2.keep (HBW.out.block _ hb')
       obtain⟨x0,x1,x2,x3,x4⟩:=HX.out.keep (HBW.out.block _ lt1)
       have g0:=qh y0
       have g1:=qh y1
       have g2:=qh x0
       clear x0 x1 x2 x3 x4 y0 y1 y2 y3 y4 e0 e1 e3 f0 f1 f3
       go_wp2_with fail
       refine qj (by kernel_rfl) (by kernel_rfl) ?_
       repeat (with_reducible refine wpQuiet_step (fun K hK=>?_);go_simp;(try simp only[undef]);first | (with_reducible refine hK _ ?_;clear hK K) | (apply Exists.intro;refine⟨fun _=>?_,hK _ ?_⟩;(first | (go_at_call 77;with_reducible exact CW.out _ _));clear hK K) | (with_reducible refine⟨fun _ h=>(by cases h),?_⟩;with_reducible refine hK _ ?_;clear hK K))
       refine wpQuiet_nil ?_
       (try simp only[show Value.tuple #[]=undef from rfl])
       intro W2 hW2
       have xZ:Below W.heap.size W W2:=by obtain⟨g,rfl⟩:=hW2;exact qp _ g
       clear hW2
       have QV:=Lib.hid (HBW.out.trans (xZ.mono HBW.out.size))
       clear xZ
       go_wp2_with fail
       go_roundw
       case rel=>exact⟨j+1,by omega,by go_num,uO.out,QV.out⟩
       case measure=>simp[intOf];omega
      ·have bj:((j:Int) != (k:Int))=true:=by rw[bne_iff_ne];omega
       have CW:Hid (∀(W:World) g,Calls Tryz.prog 77 #[.string l[j].owner,.string l[k].owner] (gw W g) fun e w''=>e= .returned (.bool false)∧∃g',w''=gw W g'):=Lib.hid fun W g=>qL (by rw[← hwi];exact jL _ _ sj hso _)
       have HNO:=Lib.hid hno;have HB:=Lib.hid hB;have uO:=Lib.hid yR;have HE:=Lib.hid he;have HJK:=Lib.hid hjk;have HWI:=Lib.hid hwi
       clear hno hB yR he hjk hwi
       clear hnx
       go_wp2_with fail
       refine qj (by kernel_rfl) (by kernel_rfl) ?_
       repeat (with_reducible refine wpQuiet_step (fun K hK=>?_);go_simp;(try simp only[undef]);first | (with_reducible refine hK _ ?_;clear hK K) | (apply Exists.intro;refine⟨fun _=>?_,hK _ ?_⟩;(first | (go_at_call 35;with_reducible exact CE.out _));clear hK K) | (with_reducible refine⟨fun _ h=>(by cases h),?_⟩;with_reducible refine hK _ ?_;clear hK K))
       refine wpQuiet_nil ?_
       (try simp only[show Value.tuple #[]=undef from rfl])
       intro W hW
       have hBW:Below wr.heap.size wr W:=by obtain⟨g,rfl⟩:=hW;exact qp _ g
       clear hW
       have HBW:=Lib.hid (HB.out.trans (hBW.mono hsr))
       clear hBW
       obtain⟨y0,y1,y2,y3,y4⟩:=(zo Zv.out hjl).2.keep (HBW.out.block _ hb')
       obtain⟨x0,x1,x2,x3,x4⟩:=HX.out.keep (HBW.out.block _ lt1)
       have g0:=qh y0
       have g1:=qh y1
       have g2:=qh x0
       clear x0 x1 x2 x3 x4 y0 y1 y2 y3 y4 e0 e1 e3 f0 f1 f3
       go_wp2_with fail
       refine qj (by kernel_rfl) (by kernel_rfl) ?_
       repeat (with_reducible refine wpQuiet_step (fun K hK=>?_);go_simp;(try simp only[undef]);first | (with_reducible refine hK _ ?_;clear hK K) | (apply Exists.intro;refine⟨fun _=>?_,hK _ ?_⟩;(first | (go_at_call 77;with_reducible exact CW.out _ _));clear hK K) | (with_reducible refine⟨fun _ h=>(by cases h),?_⟩;with_reducible refine hK _ ?_;clear hK K))
       refine wpQuiet_nil ?_
       (try simp only[show Value.tuple #[]=undef from rfl])
       intro W2 hW2
       have xZ:Below W.heap.size W W2:=by obtain⟨g,rfl⟩:=hW2;exact qp _ g
       clear hW2
       have QV:=Lib.hid (HBW.out.trans (xZ.mono HBW.out.size))
       clear xZ
       go_wp2_with fail
       go_roundw
       case rel=>exact⟨j+1,by omega,by go_num,uO.out,QV.out⟩
       case measure=>simp[intOf];omega
     ·have hres:zn.xc (qm qf) (zn.qD l) (zn.zD l) l[k]=true:=zn.bad5_hit hk hjl H39.out HN.out (by unfold zn.U3;rw[he,hwi];simp)
      by_cases hjk:j=k
      ·have bj:((j:Int) != (k:Int))=false:=by rw[hjk];simp
       have yR:True:=trivial
       have CW:Hid (∀(W:World) g,Calls Tryz.prog 77 #[.string l[j].owner,.string l[k].owner] (gw W g) fun e w''=>e= .returned (.bool true)∧∃g',w''=gw W g'):=Lib.hid fun W g=>qL (by rw[← hwi];exact jL _ _ sj hso _)
       have HNO:=Lib.hid hno;have HB:=Lib.hid hB;have uO:=Lib.hid yR;have HE:=Lib.hid he;have HJK:=Lib.hid hjk;have HWI:=Lib.hid hwi
       clear hno hB yR he hjk hwi
       clear hnx
       go_wp2_with fail
       refine qj (by kernel_rfl) (by kernel_rfl) ?_
       repeat (with_reducible refine wpQuiet_step (fun K hK=>?_);go_simp;(try simp only[undef]);first | (with_reducible refine hK _ ?_;clear hK K) | (apply Exists.intro;refine⟨fun _=>?_,hK _ ?_⟩;(first | (go_at_call 35;with_reducible exact CE.out _));clear hK K) | (with_reducible refine⟨fun _ h=>(by cases h),?_⟩;with_reducible refine hK _ ?_;clear hK K))
       refine wpQuiet_nil ?_
       (try simp only[show Value.tuple #[]=undef from rfl])
       intro W hW
       have hBW:Below wr.heap.size wr W:=by obtain⟨g,rfl⟩:=hW;exact qp _ g
       clear hW
       have HBW:=Lib.hid (HB.out.trans (hBW.mono hsr))
       clear hBW
       obtain⟨y0,y1,y2,y3,y4⟩:=(zo Zv.out hjl).2.keep (HBW.out.block _ hb')
       obtain⟨x0,x1,x2,x3,x4⟩:=HX.out.keep (HBW.out.block _ lt1)
       have g0:=qh y0
       have g1:=qh y1
       have g2:=qh x0
       clear x0 x1 x2 x3 x4 y0 y1 y2 y3 y4 e0 e1 e3 f0 f1 f3
       go_wp2_with fail
       refine qj (by kernel_rfl) (by kernel_rfl) ?_
       repeat (with_reducible refine wpQuiet_step (fun K hK=>?_);go_simp;(try simp only[undef]);first | (with_reducible refine hK _ ?_;clear hK K) | (apply Exists.intro;refine⟨fun _=>?_,hK _ ?_⟩;(first | (go_at_call 77;with_reducible exact CW.out _ _));clear hK K) | (with_reducible refine⟨fun _ h=>(by cases h),?_⟩;with_reducible refine hK _ ?_;clear hK K))
       refine wpQuiet_nil ?_
       (try simp only[show Value.tuple #[]=undef from rfl])
       intro W2 hW2
       have xZ:Below W.heap.size W W2:=by obtain⟨g,rfl⟩:=hW2;exact qp _ g
       clear hW2
       have QV:=Lib.hid (HB1.out.trans ((HBW.out.trans (xZ.mono HBW.out.size)).mono hs1))
       clear xZ
       have zb:=Lib.hid hres
       clear hres
       go_wp2_with fail
       go_ret
       exact⟨qA zb.out.symm,QV.out⟩
      ·have bj:((j:Int) != (k:Int))=true:=by rw[bne_iff_ne];omega
       have yR:True:=trivial
       have CW:Hid (∀(W:World) g,Calls Tryz.prog 77 #[.string l[j].owner,.string l[k].owner] (gw W g) fun e w''=>e= .returned (.bool true)∧∃g',w''=gw W g'):=Lib.hid fun W g=>qL (by rw[← hwi];exact jL _ _ sj hso _)
       have HNO:=Lib.hid hno;have HB:=Lib.hid hB;have uO:=Lib.hid yR;have HE:=Lib.hid he;have HJK:=Lib.hid hjk;have HWI:=Lib.hid hwi
       clear hno hB yR he hjk hwi
       clear hnx
       go_wp2_with fail
       refine qj (by kernel_rfl) (by kernel_rfl) ?_
       repeat (with_reducible refine wpQuiet_step (fun K hK=>?_);go_simp;(try simp only[undef]);first | (with_reducible refine hK _ ?_;clear hK K) | (apply Exists.intro;refine⟨fun _=>?_,hK _ ?_⟩;(first | (go_at_call 35;with_reducible exact CE.out _));clear hK K) | (with_reducible refine⟨fun _ h=>(by cases h),?_⟩;with_reducible refine hK _ ?_;clear hK K))
       refine wpQuiet_nil ?_
       (try simp only[show Value.tuple #[]=undef from rfl])
       intro W hW
       have hBW:Below wr.heap.size wr W:=by obtain⟨g,rfl⟩:=hW;exact qp _ g
       clear hW
       have HBW:=Lib.hid (HB.out.trans (hBW.mono hsr))
       clear hBW
       obtain⟨y0,y1,y2,y3,y4⟩:=(zo Zv.out hjl).2.keep (HBW.out.block _ hb')
       obtain⟨x0,x1,x2,x3,x4⟩:=HX.out.keep (HBW.out.block _ lt1)
       have g0:=qh y0
       have g1:=qh y1
       have g2:=qh x0
       clear x0 x1 x2 x3 x4 y0 y1 y2 y3 y4 e0 e1 e3 f0 f1 f3
       go_wp2_with fail
       refine qj (by kernel_rfl) (by kernel_rfl) ?_
       repeat (with_reducible refine wpQuiet_step (fun K hK=>?_);go_simp;(try simp only[undef]);first | (with_reducible refine hK _ ?_;clear hK K) | (apply Exists.intro;refine⟨fun _=>?_,hK _ ?_⟩;(first | (go_at_call 77;with_reducible exact CW.out _ _));clear hK K) | (with_reducible refine⟨fun _ h=>(by cases h),?_⟩;with_reducible refine hK _ ?_;clear hK K))
       refine wpQuiet_nil ?_
       (try simp only[show Value.tuple #[]=undef from rfl])
       intro W2 hW2
       have xZ:Below W.heap.size W W2:=by obtain⟨g,rfl⟩:=hW2;exact qp _ g
       clear hW2
       have QV:=Lib.hid (HB1.out.trans ((HBW.out.trans (xZ.mono HBW.out.size)).mono hs1))
       clear xZ
       have zb:=Lib.hid hres
       clear hres
       go_wp2_with fail
       go_ret
       exact⟨qA zb.out.symm,QV.out⟩
    ·have CE:Hid (∀g,Calls Tryz.prog 35 #[.string l[j].owner,.string l[k].owner] (gw wr g) fun e w''=>e= .returned (.bool true)∧∃g',w''=gw wr g'):=Lib.hid fun g=>qL (by rw[← he];exact zk _ _ sj hso _)
     by_cases hjk:j=k
     ·have bj:((j:Int) != (k:Int))=false:=by rw[hjk];simp
      have yR:=hnx (by unfold zn.U3;rw[he,decide_eq_false (show ¬j≠k from fun h=>h hjk)];simp)
      have HNO:=Lib.hid hno;have HB:=Lib.hid hB;have uO:=Lib.hid yR;have HE:=Lib.hid he;have HJK:=Lib.hid hjk
      clear hno hB yR he hjk
      clear hnx
      go_wp2_with fail
      refine qj (by kernel_rfl) (by kernel_rfl) ?_
      repeat (with_reducible refine wpQuiet_step (fun K hK=>?_);go_simp;(try simp only[undef]);first | (with_reducible refine hK _ ?_;clear hK K) | (apply Exists.intro;refine⟨fun _=>?_,hK _ ?_⟩;(first | (go_at_call 35;with_reducible exact CE.out _));clear hK K) | (with_reducible refine⟨fun _ h=>(by cases h),?_⟩;with_reducible refine hK _ ?_;clear hK K))
      refine wpQuiet_nil ?_
      (try simp only[show Value.tuple #[]=undef from rfl])
      intro W hW
      have hBW:Below wr.heap.size wr W:=by obtain⟨g,rfl⟩:=hW;exact qp _ g
      clear hW
      have HBW:=Lib.hid (HB.out.trans (hBW.mono hsr))
      clear hBW
      obtain⟨y0,y1,y2,y3,y4⟩:=(zo Zv.out hjl).2.keep (HBW.out.block _ hb')
      obtain⟨x0,x1,x2,x3,x4⟩:=HX.out.keep (HBW.out.block _ lt1)
      have g0:=qh y0
      have g1:=qh y1
      have g2:=qh x0
      clear x0 x1 x2 x3 x4 y0 y1 y2 y3 y4 e0 e1 e3 f0 f1 f3
      go_wp2_with fail
      refine qj (by kernel_rfl) (by kernel_rfl) ?_
      repeat (with_reducible refine wpQuiet_step (fun K hK=>?_);go_simp;(try simp only[undef]);first | (with_reducible refine hK _ ?_;clear hK K) | (apply Exists.intro;refine⟨fun _=>?_,hK _ ?_⟩;(first | (fail));clear hK K) | (with_reducible refine⟨fun _ h=>(by cases h),?_⟩;with_reducible refine hK _ ?_;clear hK K))
      refine wpQuiet_nil ?_
      (try simp only[show Value.tuple #[]=undef from rfl])
      intro W2 hW2
      have xZ:Below W.heap.size W W2:=by obtain⟨g,rfl⟩:=hW2;exact qp _ g
      clear hW2
      have QV:=Lib.hid (HBW.out.trans (xZ.mono HBW.out.size))
      clear xZ
      go_wp2_with fail
      go_roundw
      case rel=>exact⟨j+1,by omega,by go_num,uO.out,QV.out⟩
      case measure=>simp[intOf];omega
     ·have bj:((j:Int) != (k:Int))=true:=by rw[bne_iff_ne];omega
      by_cases t39:l[j].typ=39
      ·have bt:(l[j].typ == 39)=true:=by rw[beq_iff_eq];exact t39
       have hres:zn.xc (qm qf) (zn.qD l) (zn.zD l) l[k]=true:=zn.bad5_hit hk hjl H39.out HN.out (by unfold zn.U3;rw[he,decide_eq_true hjk,decide_eq_true t39];simp)
       have yR:True:=trivial
       have T39:=Lib.hid t39
       clear t39
       have HNO:=Lib.hid hno;have HB:=Lib.hid hB;have uO:=Lib.hid yR;have HE:=Lib.hid he;have HJK:=Lib.hid hjk
       clear hno hB yR he hjk
       clear hnx
       go_wp2_with fail
       refine qj (by kernel_rfl) (by kernel_rfl) ?_
       repeat (with_reducible refine wpQuiet_step (fun K hK=>?_);go_simp;(try simp only[undef]);first | (with_reducible refine hK _ ?_;clear hK K) | (apply Exists.intro;refine⟨fun _=>?_,hK _ ?_⟩;(first | (go_at_call 35;with_reducible exact CE.out _));clear hK K) | (with_reducible refine⟨fun _ h=>(by cases h),?_⟩;with_reducible refine hK _ ?_;clear hK K))
       refine wpQuiet_nil ?_
       (try simp only[show Value.tuple #[]=undef from rfl])
       intro W hW
       have hBW:Below wr.heap.size wr W:=by obtain⟨g,rfl⟩:=hW;exact qp _ g
       clear hW
       have HBW:=Lib.hid (HB.out.trans (hBW.mono hsr))
       clear hBW
       obtain⟨y0,y1,y2,y3,y4⟩:=(zo Zv.out hjl).2.keep (HBW.out.block _ hb')
       obtain⟨x0,x1,x2,x3,x4⟩:=HX.out.keep (HBW.out.block _ lt1)
       have g0:=qh y0
       have g1:=qh y1
       have g2:=qh x0
       clear x0 x1 x2 x3 x4 y0 y1 y2 y3 y4 e0 e1 e3 f0 f1 f3
       go_wp2_with fail
       refine qj (by kernel_rfl) (by kernel_rfl) ?_
       repeat (with_reducible refine wpQuiet_step (fun K hK=>?_);go_simp;(try simp only[undef]);first | (with_reducible refine hK _ ?_;clear hK K) | (apply Exists.intro;refine⟨fun _=>?_,hK _ ?_⟩;(first | (fail));clear hK K) | (with_reducible refine⟨fun _ h=>(by cases h),?_⟩;with_reducible refine hK _ ?_;clear hK K))
       refine wpQuiet_nil ?_
       (try simp only[show Value.tuple #[]=undef from rfl])
       intro W2 hW2
       have xZ:Below W.heap.size W W2:=by obtain⟨g,rfl⟩:=hW2;exact qp _ g
       clear hW2
       have QV:=Lib.hid (HB1.out.trans ((HBW.out.trans (xZ.mono HBW.out.size)).mono hs1))
       clear xZ
       have zb:=Lib.hid hres
       clear hres
       go_wp2_with fail
       go_ret
       exact⟨qA zb.out.symm,QV.out⟩
      ·have bt:(l[j].typ == 39)=false:=by rw[beq_eq_false_iff_ne];exact t39
       have yR:=hnx (by unfold zn.U3;rw[he,decide_eq_false t39];simp)
       have T39:=Lib.hid t39
       clear t39
       have HNO:=Lib.hid hno;have HB:=Lib.hid hB;have uO:=Lib.hid yR;have HE:=Lib.hid he;have HJK:=Lib.hid hjk
       clear hno hB yR he hjk
       clear hnx
       go_wp2_with fail
       refine qj (by kernel_rfl) (by kernel_rfl) ?_
       repeat (with_reducible refine wpQuiet_step (fun K hK=>?_);go_simp;(try simp only[undef]);first | (with_reducible refine hK _ ?_;clear hK K) | (apply Exists.intro;refine⟨fun _=>?_,hK _ ?_⟩;(first | (go_at_call 35;with_reducible exact CE.out _));clear hK K) | (with_reducible refine⟨fun _ h=>(by cases h),?_⟩;with_reducible refine hK _ ?_;clear hK K))
       refine wpQuiet_nil ?_
       (try simp only[show Value.tuple #[]=undef from rfl])
       intro W hW
       have hBW:Below wr.heap.size wr W:=by obtain⟨g,rfl⟩:=hW;exact qp _ g
       clear hW
       have HBW:=Lib.hid (HB.out.trans (hBW.mono hsr))
       clear hBW
       obtain⟨y0,y1,y2,y3,y4⟩:=(zo Zv.out hjl).2.keep (HBW.out.block _ hb')
       obtain⟨x0,x1,x2,x3,x4⟩:=HX.out.keep (HBW.out.block _ lt1)
       have g0:=qh y0
       have g1:=qh y1
       have g2:=qh x0
       clear x0 x1 x2 x3 x4 y0 y1 y2 y3 y4 e0 e1 e3 f0 f1 f3
       go_wp2_with fail
       refine qj (by kernel_rfl) (by kernel_rfl) ?_
       repeat (with_reducible refine wpQuiet_step (fun K hK=>?_);go_simp;(try simp only[undef]);first | (with_reducible refine hK _ ?_;clear hK K) | (apply Exists.intro;refine⟨fun _=>?_,hK _ ?_⟩;(first | (fail));clear hK K) | (with_reducible refine⟨fun _ h=>(by cases h),?_⟩;with_reducible refine hK _ ?_;clear hK K))
       refine wpQuiet_nil ?_
       (try simp only[show Value.tuple #[]=undef from rfl])
       intro W2 hW2
       have xZ:Below W.heap.size W W2:=by obtain⟨g,rfl⟩:=hW2;exact qp _ g
       clear hW2
       have QV:=Lib.hid (HBW.out.trans (xZ.mono HBW.out.size))
       clear xZ
       go_wp2_with fail
       go_roundw
       case rel=>exact⟨j+1,by omega,by go_num,uO.out,QV.out⟩
       case measure=>simp[intOf];omega
   ·obtain rfl:j=l.length:=by omega
    have hres:zn.xc (qm qf) (zn.qD l) (zn.zD l) l[k]=qz l[k].owner qf:=zn.bad5_miss HAP.out hk H39.out HN.out (fun j hj=>hno j hj hj)
    obtain⟨x0',_⟩:=HX.out.keep (hB.block _ lt1)
    have HBE:=Lib.hid (HB1.out.trans (hB.mono hs1))
    have HNO:=Lib.hid hno;have HB:=Lib.hid hB;have zb:=Lib.hid hres
    clear hno hB hres
    go_wp2_with fail
    refine(zk _ _ hso K7 _).mono ?_
    rintro e w2 ⟨rfl,hB2⟩
    have HB2:=Lib.hid (HBE.out.trans (hB2.mono HBE.out.size))
    clear hB2
    go_wp2_with fail
    go_ret
    exact⟨qA zb.out.symm,HB2.out⟩
 ·have b39:(l[k].typ != 39)=true:=by rw[bne_iff_ne];exact h39
  have hres:zn.xc (qm qf) (zn.qD l) (zn.zD l) l[k]=false:=zn.bad5_other h39
  have H39:=Lib.hid h39;have zb:=Lib.hid hres
  clear h39 hres
  go_enter Tryz.func62,Tryz.ntmps62
  go_wp2_with fail
  go_ret
  exact⟨qA zb.out.symm,by rw[← HW1.out];exact HB1.out⟩
end Go.Proofs.YtdjjemajfphjaaaGreat
