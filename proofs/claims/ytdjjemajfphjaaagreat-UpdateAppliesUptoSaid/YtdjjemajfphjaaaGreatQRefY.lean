import Derived.Test.YtdjjemajfphjaaaGreatQRefW
set_option maxRecDepth 100000
set_option maxHeartbeats 4000000
namespace Go.Proofs.YtdjjemajfphjaaaGreat
open Go.RowKit Go.Shelf nm od
theorem rbreaks_10 (qf:ByteArray)(l:List Rec)(k:Nat)(hk:k<l.length)(hl:l.length≤2000)(hn:zn.jH l)(v:Value)(w:World)(hrv:qy w v l):
 Calls Tryz.prog 62 #[.int .i64 10,.string qf,v,.int .i64 k] w fun e w'=>e= .returned (.bool (zn.Qu (zn.qD l) l[k]))∧Below w.heap.size w w':=by
 have hsz:∀r∈l,r.owner.size≤1099511627776:=fun r hr=>by have:=qP (hn r hr);omega
 obtain⟨b,off,cap,rfl,hcap⟩:=uG hrv hk
 obtain⟨hb,c0,c1,c2,c3,c4⟩:=zo hrv hk
 have hki:(k:Int)<(l.length:Int):=by omega
 obtain⟨w1,hw1⟩:∃W,W=w.alloc (.cells (recC l[k]).toArray 51):=⟨_,rfl⟩
 obtain⟨hB1,hz1,hx⟩:=qM w w1 l[k] hw1
 have vV:=hrv.below hB1
 have lt1:w.heap.size<w1.heap.size:=by omega
 have hso:=hsz l[k] (List.getElem_mem hk)
 obtain⟨x0,x1,x2,x3,x4⟩:=id hx
 have HW1:=Lib.hid hw1;have HB1:=Lib.hid hB1;have HZ1:=Lib.hid hz1;have HX:=Lib.hid hx;have HRV:=Lib.hid hrv;have Zv:=Lib.hid vV;have HSZ:=Lib.hid hsz
 clear hw1 hB1 hz1 hx hrv vV hsz
 have hs1:=HB1.out.size
 have HN:=Lib.hid hn
 clear hn
 go_enter Tryz.func62,Tryz.ntmps62
 go_wp2_with fail
 rw[← HW1.out]
 clear c0 c1 c2 c3 c4 x0 x1 x2 x3 x4
 go_loopw [15] (fun jv wr=>∃j:Nat,j≤k∧jv= .int .i64 (j:Int)∧(l[k].typ≠46→∀i (hi:i<l.length),i<j→zn.zh l[i]≠zn.zh l[k])∧Below w1.heap.size w1 wr) (fun jv _=>k-(intOf jv).toNat)
 case atStart=>exact⟨0,Nat.zero_le _,rfl,(fun _ i hi h=>by omega),Below.refl _ _⟩
 case round=>
  obtain⟨j,hj,rfl,hno,hB⟩:=hrel
  by_cases hlt:j<k
  ·have hjl:j<l.length:=by omega
   have hji:(j:Int)<(l.length:Int):=by omega
   obtain⟨hb',ra⟩:=zo Zv.out hjl
   obtain⟨y0,y1,y2,y3,y4⟩:=ra.keep (hB.block _ hb')
   obtain⟨x0,x1,x2,x3,x4⟩:=HX.out.keep (hB.block _ lt1)
   have e0:=qh y0
   have e1:=qh y1
   have e3:=qh y3
   have f0:=qh x0
   have f1:=qh x1
   have f3:=qh x3
   have sj:=HSZ.out _ (List.getElem_mem hjl)
   have hsr:=hB.size
   clear x0 x1 x2 x3 x4 y0 y1 y2 y3 y4
   have nj:=HN.out _ (List.getElem_mem hjl)
   have nk:=HN.out _ (List.getElem_mem hk)
   have hkey:=zn.key_iff nj nk
   have hnx:(l[k].typ≠46→zn.zh l[j]≠zn.zh l[k])→l[k].typ≠46→∀i (hi:i<l.length),i<j+1→zn.zh l[i]≠zn.zh l[k]:=fun h9 h46 i hi h=>by
    rcases Nat.lt_or_ge i j with h' | h'
    ·exact hno h46 i hi h'
    ·obtain rfl:i=j:=by omega
     exact h9 h46
   by_cases h46:l[k].typ=46
   ·have b46:(l[k].typ != 46)=false:=by rw[h46];rfl
    have yR:=hnx (fun h=>absurd h46 h)
    clear nj nk hkey
    have H46:=Lib.hid h46;have HNO:=Lib.hid hno;have HB:=Lib.hid hB;have uO:=Lib.hid yR
    clear h46 hno hB yR
    clear hnx
    go_wp2_with fail
    refine qj (by kernel_rfl) (by kernel_rfl) ?_
    repeat (with_reducible refine wpQuiet_step (fun K hK=>?_);go_simp;(try simp only[undef]);first | (with_reducible refine hK _ ?_;clear hK K) | (apply Exists.intro;refine⟨fun _=>?_,hK _ ?_⟩;(first | (fail));clear hK K) | (with_reducible refine⟨fun _ h=>(by cases h),?_⟩;with_reducible refine hK _ ?_;clear hK K))
    refine wpQuiet_nil ?_
    (try simp only[show Value.tuple #[]=undef from rfl])
    intro W hW
    have hBW:Below wr.heap.size wr W:=by obtain⟨g,rfl⟩:=hW;exact qp _ g
    clear hW
    have HBW:=Lib.hid (HB.out.trans (hBW.mono hsr))
    clear hBW
    go_wp2_with fail
    go_roundw
    case rel=>exact⟨j+1,by omega,by go_num,uO.out,HBW.out⟩
    case measure=>simp[intOf];omega
   ·have b46:(l[k].typ != 46)=true:=by rw[bne_iff_ne];exact h46
    by_cases ht:l[j].typ=l[k].typ
    ·have bt:(l[j].typ == l[k].typ)=true:=by rw[beq_iff_eq];exact ht
     cases he:qz l[j].owner l[k].owner
     ·have yR:=hnx (fun _ h=>by
       have:=(hkey.1 h).2
       rw[he]at this
       cases this)
      have CE:Hid (∀g,Calls Tryz.prog 35 #[.string l[j].owner,.string l[k].owner] (gw wr g) fun e w''=>e= .returned (.bool false)∧∃g',w''=gw wr g'):=Lib.hid fun g=>qL (by rw[← he];exact zk _ _ sj hso _)
      clear nj nk hkey
      have H46:=Lib.hid h46;have HNO:=Lib.hid hno;have HB:=Lib.hid hB;have uO:=Lib.hid yR;have HT:=Lib.hid ht;have HE:=Lib.hid he
      clear h46 hno hB yR ht he
      clear hnx
      go_wp2_with fail
      refine qj (by kernel_rfl) (by kernel_rfl) ?_
      repeat (with_reducible refine wpQuiet_step (fun K hK=>?_);go_simp;(try simp only[undef]);first | (with_reducible refine hK _ ?_;clear hK K) | (apply Exists.intro;refine⟨fun _=>?_,hK _ ?_⟩;(first | (go_at_call 35;with_reducible exact CE.out _));clear hK K) | (with_reducible refine⟨fun _ h=>(by cases h),?_⟩;with_reducible refine hK _ ?_;clear hK K))
      refine wpQuiet_nil ?_
      (try simp only[show Value.tuple #[]=undef from rfl])
      intro W hW
      have hBW:Below wr.heap.size wr W:=by obtain⟨g,rfl⟩:=hW;exact qp _ g
      clear hW
      have HBW:=Lib.hid (HB.out.trans (hBW.mono hsr))
      clear hBW
      go_wp2_with fail
      go_roundw
      case rel=>exact⟨j+1,by omega,by go_num,uO.out,HBW.out⟩
      case measure=>simp[intOf];omega
     ·have hres:zn.Qu (zn.qD l) l[k]=decide (l[j].ttl≠l[k].ttl):=zn.bad6_hit hk hjl h46 (hkey.2 ⟨ht,he⟩) (hno h46)
      have CE:Hid (∀g,Calls Tryz.prog 35 #[.string l[j].owner,.string l[k].owner] (gw wr g) fun e w''=>e= .returned (.bool true)∧∃g',w''=gw wr g'):=Lib.hid fun g=>qL (by rw[← he];exact zk _ _ sj hso _)
      clear nj nk hkey
      have H46:=Lib.hid h46;have HNO:=Lib.hid hno;have HB:=Lib.hid hB;have HT:=Lib.hid ht;have HE:=Lib.hid he;have zb:=Lib.hid hres
      clear h46 hno hB ht he hres
      clear hnx
      go_wp2_with fail
      refine qj (by kernel_rfl) (by kernel_rfl) ?_
      repeat (with_reducible refine wpQuiet_step (fun K hK=>?_);go_simp;(try simp only[undef]);first | (with_reducible refine hK _ ?_;clear hK K) | (apply Exists.intro;refine⟨fun _=>?_,hK _ ?_⟩;(first | (go_at_call 35;with_reducible exact CE.out _));clear hK K) | (with_reducible refine⟨fun _ h=>(by cases h),?_⟩;with_reducible refine hK _ ?_;clear hK K))
      refine wpQuiet_nil ?_
      (try simp only[show Value.tuple #[]=undef from rfl])
      intro W hW
      have hBW:Below wr.heap.size wr W:=by obtain⟨g,rfl⟩:=hW;exact qp _ g
      clear hW
      have HBW:=Lib.hid (HB.out.trans (hBW.mono hsr))
      clear hBW
      obtain⟨y0,y1,y2,y3,y4⟩:=(zo Zv.out hjl).2.keep (HBW.out.block _ hb')
      obtain⟨x0,x1,x2,x3,x4⟩:=HX.out.keep (HBW.out.block _ lt1)
      have g3:=qh y3
      have g4:=qh x3
      clear x0 x1 x2 x3 x4 y0 y1 y2 y3 y4 e0 e1 e3 f0 f1 f3
      go_wp2_with fail
      refine qj (by kernel_rfl) (by kernel_rfl) ?_
      repeat (with_reducible refine wpQuiet_step (fun K hK=>?_);go_simp;(try simp only[undef]);first | (with_reducible refine hK _ ?_;clear hK K))
      refine wpQuiet_nil ?_
      (try simp only[show Value.tuple #[]=undef from rfl])
      intro W2 hW2
      have xZ:Below W.heap.size W W2:=by obtain⟨g,rfl⟩:=hW2;exact qp _ g
      clear hW2
      have QV:=Lib.hid (HB1.out.trans ((HBW.out.trans (xZ.mono HBW.out.size)).mono hs1))
      clear xZ
      go_wp2_with fail
      go_ret
      exact⟨qA (by rw[zb.out];by_cases h:l[j].ttl=l[k].ttl <;> simp[h]),QV.out⟩
    ·have bt:(l[j].typ == l[k].typ)=false:=by rw[beq_eq_false_iff_ne];exact ht
     have yR:=hnx (fun _ h=>ht (hkey.1 h).1)
     clear nj nk hkey
     have H46:=Lib.hid h46;have HNO:=Lib.hid hno;have HB:=Lib.hid hB;have uO:=Lib.hid yR;have HT:=Lib.hid ht
     clear h46 hno hB yR ht
     clear hnx
     go_wp2_with fail
     refine qj (by kernel_rfl) (by kernel_rfl) ?_
     repeat (with_reducible refine wpQuiet_step (fun K hK=>?_);go_simp;(try simp only[undef]);first | (with_reducible refine hK _ ?_;clear hK K) | (apply Exists.intro;refine⟨fun _=>?_,hK _ ?_⟩;(first | (fail));clear hK K) | (with_reducible refine⟨fun _ h=>(by cases h),?_⟩;with_reducible refine hK _ ?_;clear hK K))
     refine wpQuiet_nil ?_
     (try simp only[show Value.tuple #[]=undef from rfl])
     intro W hW
     have hBW:Below wr.heap.size wr W:=by obtain⟨g,rfl⟩:=hW;exact qp _ g
     clear hW
     have HBW:=Lib.hid (HB.out.trans (hBW.mono hsr))
     clear hBW
     go_wp2_with fail
     go_roundw
     case rel=>exact⟨j+1,by omega,by go_num,uO.out,HBW.out⟩
     case measure=>simp[intOf];omega
  ·obtain rfl:j=k:=by omega
   have hres:zn.Qu (zn.qD l) l[j]=false:=by
    by_cases h46:l[j].typ=46
    ·exact zn.bad6_sig h46
    ·exact zn.bad6_miss hk (hno h46)
   have HBE:=Lib.hid (HB1.out.trans (hB.mono hs1))
   have HNO:=Lib.hid hno;have HB:=Lib.hid hB;have zb:=Lib.hid hres
   clear hno hB hres
   go_wp2_with fail
   go_ret
   exact⟨qA zb.out.symm,HBE.out⟩
end Go.Proofs.YtdjjemajfphjaaaGreat
namespace Go.Proofs.YtdjjemajfphjaaaGreat
open Go.RowKit Go.Shelf nm od
namespace zn
def Qm (qf:ByteArray)(l:List Rec)(r k:Nat):Bool:=
 if r=2 then atB l jV k else if r=3 then atB l (fun x=>!qU x.owner qf) k else if r=4 then jQ l k else if r=5 then QF qf l k
 else if r=6 then false else if r=7 then atB l QQ k else if r=8 then atB l (ZX (uj l)) k else if r=9 then atB l (xc (qm qf) (qD l) (zD l)) k else atB l (Qu (qD l)) k
def codeR (r:Nat):Int:=if r=2 then 8 else if r=3 then 5 else if r=4 then 19 else if r=5 then 15 else if r=7 then 22 else if r=8 then 17 else if r=9 then 18 else if r=10 then 21 else 0
def vY (qf:ByteArray)(l:List Rec):Nat→Nat→Option (Int×Int)
 | 0,_=>none
 | f+1,r=>match zl (Qm qf l r) l.length with
   | some k=>some (k,codeR r)
   | none=>if r=5∧hasB l qf 6=false then some (-1,15) else if r=6∧hasB l qf 2=false then some (-1,16) else vY qf l f (r+1)
theorem has_rows {l:List Rec}{n:ByteArray}(hn:jH l)(hc:ql n=true)(t:Int):hasB l n t=true↔qD l (qm n,t)≠[]:=by
 unfold hasB
 rw[List.any_eq_true]
 constructor
 ·rintro⟨r,hr,h⟩ e
  simp only[Bool.and_eq_true,decide_eq_true_eq]at h
  have:=(zJ (hn r hr) hc).1 h.2
  have hm:r∈qD l (qm n,t):=ky.2 ⟨hr,by unfold zh;rw[this,h.1]⟩
  rw[e]at hm
  simp at hm
 ·intro h
  obtain⟨r,hr⟩:=List.exists_mem_of_ne_nil _ h
  obtain⟨h1,h2⟩:=ky.1 hr
  unfold zh at h2
  simp only[Prod.mk.injEq]at h2
  exact⟨r,h1,by rw[decide_eq_true h2.2,(zJ (hn r h1) hc).2 h2.1];rfl⟩
theorem has_soa {l:List Rec}{qf:ByteArray}(h:zl (QF qf l) l.length=none):hasB l qf 6=false↔xU l=0:=by
 rw[Jp,Bool.eq_false_iff]
 unfold hasB
 rw[ne_eq,List.any_eq_true]
 constructor
 ·intro hh r hr h6
  exact hh ⟨r,hr,by rw[decide_eq_true h6,(KD.1 h).2 r hr h6];rfl⟩
 ·rintro hh ⟨r,hr,h2⟩
  simp only[Bool.and_eq_true,decide_eq_true_eq]at h2
  exact hh r hr h2.1
theorem firstB_false (n:Nat):zl (fun _=>false) n=none:=vI fun _ _=>rfl
theorem kR {qf:ByteArray}{l:List Rec}{f r k:Nat}(h:zl (Qm qf l r) l.length=some k):vY qf l (f+1) r=some ((k:Int),codeR r):=by
 rw[vY,h]
theorem jU {qf:ByteArray}{l:List Rec}{f r:Nat}(h:zl (Qm qf l r) l.length=none):vY qf l (f+1) r=if r=5∧hasB l qf 6=false then some (-1,15) else if r=6∧hasB l qf 2=false then some (-1,16) else vY qf l f (r+1):=by
 rw[vY,h]
theorem chain_newE {qf:ByteArray}{l:List Rec}(hc:ql qf=true)(hl:¬2000<l.length):yY qf l=vY qf l 9 2:=by
 have e2:Qm qf l 2=atB l jV:=rfl
 have e3:Qm qf l 3=atB l (fun x=>!qU x.owner qf):=rfl
 have e4:Qm qf l 4=jQ l:=rfl
 have e5:Qm qf l 5=QF qf l:=rfl
 have e6:Qm qf l 6=fun _=>false:=rfl
 have e7:Qm qf l 7=atB l QQ:=rfl
 have e8:Qm qf l 8=atB l (ZX (uj l)):=rfl
 have e9:Qm qf l 9=atB l (xc (qm qf) (qD l) (zD l)):=rfl
 have e10:Qm qf l 10=atB l (Qu (qD l)):=rfl
 unfold yY
 rw[if_neg (by rw[hc];simp),if_neg hl]
 unfold ug
 cases h2:zl (atB l jV) l.length with
 | some k=>rw[kR (f:=8) (r:=2) (by rw[e2];exact h2)];rfl
 | none=>
   have hn:jH l:=fun r hr=>by
    have:=xG.1 h2 r hr
    unfold jV at this
    cases hh:ql r.owner
    ·rw[hh]at this;simp at this
    ·rfl
   rw[jU (f:=8) (r:=2) (by rw[e2];exact h2)]
   simp only[show ¬(2=5∧hasB l qf 6=false) from fun h=>by omega,show ¬(2=6∧hasB l qf 2=false) from fun h=>by omega,if_false]
   cases h3:zl (atB l fun r=>!qU r.owner qf) l.length with
   | some k=>rw[kR (f:=7) (r:=3) (by rw[e3];exact h3)];rfl
   | none=>
     rw[jU (f:=7) (r:=3) (by rw[e3];exact h3)]
     simp only[show ¬(3=5∧hasB l qf 6=false) from fun h=>by omega,show ¬(3=6∧hasB l qf 2=false) from fun h=>by omega,if_false]
     unfold yh
     cases h4:zl (jQ l) l.length with
     | some k=>rw[kR (f:=6) (r:=4) (by rw[e4];exact h4)];rfl
     | none=>
       rw[jU (f:=6) (r:=4) (by rw[e4];exact h4)]
       simp only[show ¬(4=5∧hasB l qf 6=false) from fun h=>by omega,show ¬(4=6∧hasB l qf 2=false) from fun h=>by omega,if_false]
       cases h5:zl (QF qf l) l.length with
       | some k=>rw[kR (f:=5) (r:=5) (by rw[e5];exact h5)];rfl
       | none=>
         rw[jU (f:=5) (r:=5) (by rw[e5];exact h5)]
         simp only
         by_cases s0:xU l=0
         ·rw[if_pos s0,if_pos ⟨by trivial,(has_soa h5).2 s0⟩]
         ·have q56:¬(5=6∧hasB l qf 2=false):=fun h=>by omega
          have q65:¬(6=5∧hasB l qf 6=false):=fun h=>by omega
          have q5:¬(True∧hasB l qf 6=false):=fun h=>s0 ((has_soa h5).1 h.2)
          rw[if_neg s0,if_neg q5,if_neg q56,jU (f:=4) (r:=6) (by rw[e6];exact firstB_false _),if_neg q65]
          by_cases n0:(qD l (qm qf,2)).length=0
          ·have:hasB l qf 2=false:=by
            rw[Bool.eq_false_iff]
            intro h
            exact(has_rows hn hc 2).1 h (List.eq_nil_of_length_eq_zero n0)
           rw[if_pos n0,if_pos ⟨by trivial,this⟩]
          ·have:¬hasB l qf 2=false:=by
            intro h
            have h2:=(has_rows hn hc 2).2 (fun e=>n0 (by rw[e];rfl))
            rw[h]at h2
            cases h2
           rw[if_neg n0,if_neg (fun h=>this h.2)]
           cases h7:zl (atB l QQ) l.length with
           | some k=>rw[kR (f:=3) (r:=7) (by rw[e7];exact h7)];rfl
           | none=>
             rw[jU (f:=3) (r:=7) (by rw[e7];exact h7)]
             simp only[show ¬(7=5∧hasB l qf 6=false) from fun h=>by omega,show ¬(7=6∧hasB l qf 2=false) from fun h=>by omega,if_false]
             cases h8:zl (atB l (ZX (uj l))) l.length with
             | some k=>rw[kR (f:=2) (r:=8) (by rw[e8];exact h8)];rfl
             | none=>
               rw[jU (f:=2) (r:=8) (by rw[e8];exact h8)]
               simp only[show ¬(8=5∧hasB l qf 6=false) from fun h=>by omega,show ¬(8=6∧hasB l qf 2=false) from fun h=>by omega,if_false]
               cases h9:zl (atB l (xc (qm qf) (qD l) (zD l))) l.length with
               | some k=>rw[kR (f:=1) (r:=9) (by rw[e9];exact h9)];rfl
               | none=>
                 rw[jU (f:=1) (r:=9) (by rw[e9];exact h9)]
                 simp only[show ¬(9=5∧hasB l qf 6=false) from fun h=>by omega,show ¬(9=6∧hasB l qf 2=false) from fun h=>by omega,if_false]
                 cases h10:zl (atB l (Qu (qD l))) l.length with
                 | some k=>rw[kR (f:=0) (r:=10) (by rw[e10];exact h10)];rfl
                 | none=>
                   rw[jU (f:=0) (r:=10) (by rw[e10];exact h10)]
                   simp only[show ¬(10=5∧hasB l qf 6=false) from fun h=>by omega,show ¬(10=6∧hasB l qf 2=false) from fun h=>by omega,if_false]
                   rfl
theorem chain_hit {qf:ByteArray}{l:List Rec}{f r k:Nat}(hk:k<l.length)(h:Qm qf l r k=true)(hb:∀j,j<k→Qm qf l r j=false):vY qf l (f+1) r=some ((k:Int),codeR r):=by
 rw[kR (VC hk h hb)]
theorem chain_miss {qf:ByteArray}{l:List Rec}{f r:Nat}(h:∀j,j<l.length→Qm qf l r j=false):vY qf l (f+1) r=if r=5∧hasB l qf 6=false then some (-1,15) else if r=6∧hasB l qf 2=false then some (-1,16) else vY qf l f (r+1):=by
 rw[jU (vI h)]
end zn
theorem rbreaks_any (qf:ByteArray)(hap:ql qf=true)(l:List Rec)(k:Nat)(hk:k<l.length)(hl:l.length≤2000)(hsz:∀r∈l,r.owner.size≤1099511627776)(r:Nat)(h2:2≤r)(h10:r≤10)(hn:4≤r→zn.jH l)(v:Value)(w:World)(hrv:qy w v l):
 Calls Tryz.prog 62 #[.int .i64 (r:Int),.string qf,v,.int .i64 k] w fun e w'=>e= .returned (.bool (zn.Qm qf l r k))∧Below w.heap.size w w':=by
 have K7:qf.size≤1099511627776:=by have:=qP hap;omega
 match r,h2,h10 with
 | 2,_,_=>
   have e:zn.Qm qf l 2 k=zn.jV l[k]:=zn.uN hk
   rw[e]
   exact rbreaks_2 qf l k hk hl hsz v w hrv
 | 3,_,_=>
   have e:zn.Qm qf l 3 k=(fun x:Rec=>!qU x.owner qf) l[k]:=zn.uN hk
   rw[e]
   exact rbreaks_3 qf K7 l k hk hl hsz v w hrv
 | 4,_,_=>exact rbreaks_4 qf l k hk hl (hn (by omega)) v w hrv
 | 5,_,_=>exact rbreaks_5 qf K7 l k hk hl (hn (by omega)) v w hrv
 | 6,_,_=>exact rbreaks_6 qf l k hk hl (hn (by omega)) v w hrv
 | 7,_,_=>
   have e:zn.Qm qf l 7 k=zn.QQ l[k]:=zn.uN hk
   rw[e]
   exact rbreaks_7 qf l k hk hl (hn (by omega)) v w hrv
 | 8,_,_=>
   have e:zn.Qm qf l 8 k=(zn.ZX (zn.uj l)) l[k]:=zn.uN hk
   rw[e]
   exact rbreaks_8 qf l k hk hl (hn (by omega)) v w hrv
 | 9,_,_=>
   have e:zn.Qm qf l 9 k=(zn.xc (qm qf) (zn.qD l) (zn.zD l)) l[k]:=zn.uN hk
   rw[e]
   exact rbreaks_9 qf hap l k hk hl (hn (by omega)) v w hrv
 | 10,_,_=>
   have e:zn.Qm qf l 10 k=(zn.Qu (zn.qD l)) l[k]:=zn.uN hk
   rw[e]
   exact rbreaks_10 qf l k hk hl (hn (by omega)) v w hrv
end Go.Proofs.YtdjjemajfphjaaaGreat
namespace Go.Proofs.YtdjjemajfphjaaaGreat
open Go.RowKit Go.Shelf nm od
def vO (w:World)(z:Nat)(qf:ByteArray)(L:List Rec):Prop:=
 ∃g cap,w.heap[z]? =some (.cells #[.string qf,.slice (some ⟨g,0,none⟩) L.length cap] 44 (0,0))∧qy w (.slice (some ⟨g,0,none⟩) L.length cap) L
theorem vO.below {w w':World}{z:Nat}{qf:ByteArray}{L:List Rec}(h:vO w z qf L)(hb:Below w.heap.size w w'):vO w' z qf L:=by
 obtain⟨g,cap,h1,h2⟩:=h
 exact⟨g,cap,(hb.block z (qw h1)).trans h1,h2.below hb⟩
def YD (qf:ByteArray)(l:List Rec)(w:World)(e:Ending)(w':World):Prop:=Below w.heap.size w w'∧match zn.yY qf l with
 | some (k,c)=>e= .returned (.tuple #[.pointer none,.int .i64 k,.int .i64 c])
 | none=>∃z L,zQ l L∧e= .returned (.tuple #[.pointer (some ⟨z,0,none⟩),.int .i64 0,.int .i64 0])∧vO w' z qf L
theorem YD.bad {qf:ByteArray}{l:List Rec}{w w':World}{k c:Int}(h:zn.yY qf l=some (k,c))(hB:Below w.heap.size w w'):YD qf l w (.returned (.tuple #[.pointer none,.int .i64 k,.int .i64 c])) w':=by
 refine⟨hB,?_⟩
 rw[h]
theorem YD.good {qf:ByteArray}{l L:List Rec}{w w':World}{z:Nat}(h:zn.yY qf l=none)(hB:Below w.heap.size w w')(hs:zQ l L)(hz:vO w' z qf L):YD qf l w (.returned (.tuple #[.pointer (some ⟨z,0,none⟩),.int .i64 0,.int .i64 0])) w':=by
 refine⟨hB,?_⟩
 rw[h]
 exact⟨z,L,hs,rfl,hz⟩
def codesC:Array Value:=#[.int .i64 0,.int .i64 0,.int .i64 8,.int .i64 5,.int .i64 19,.int .i64 15,.int .i64 0,.int .i64 22,.int .i64 17,.int .i64 18,.int .i64 21]
theorem codes_at {w:World}{b:Nat}(h:w.heap[b]? =some (.cells codesC 47 (0,0)))(r:Nat)(h2:2≤r)(h10:r≤10):w.cell? ⟨b,r,none⟩=some (.int .i64 (zn.codeR r)):=by
 rw[qg h]
 match r,h2,h10 with
 | 2,_,_=>rfl
 | 3,_,_=>rfl
 | 4,_,_=>rfl
 | 5,_,_=>rfl
 | 6,_,_=>rfl
 | 7,_,_=>rfl
 | 8,_,_=>rfl
 | 9,_,_=>rfl
 | 10,_,_=>rfl
theorem rmake_any (qf:ByteArray)(K7:qf.size≤1099511627776)(l:List Rec)(hsz:∀r∈l,r.owner.size≤1099511627776)(v:Value)(hf:yS v)(w:World)(hrv:qy w v l):
 Calls Tryz.prog 19 #[.string qf,v] w fun e w'=>YD qf l w e w':=by
 obtain⟨a,cap,hv,hcap,_⟩:=id hrv
 cases hap:ql qf
 ·have hr:zn.yY qf l=some (-1,1):=by unfold zn.yY;rw[if_pos hap]
  have HAP:=Lib.hid hap;have HR:=Lib.hid hr;have HRV:=Lib.hid hrv;have HSZ:=Lib.hid hsz;have HF:=Lib.hid hf;have HV:=Lib.hid hv
  clear hap hr hrv hsz hf hv
  go_enter Tryz.func19,Tryz.ntmps19
  go_wp2_with fail
  refine(zH _ K7 _).mono ?_
  rintro e w2 ⟨rfl,hB2⟩
  rw[HAP.out]
  go_wp2_with fail
  go_ret3
  exact YD.bad HR.out hB2
 ·by_cases hl:2000<l.length
  ·have hr:zn.yY qf l=some (-1,20):=newE_many hap hl
   have hl':(2000:Int)<(l.length:Int):=by omega
   subst hv
   have HAP:=Lib.hid hap;have HR:=Lib.hid hr;have HRV:=Lib.hid hrv;have HSZ:=Lib.hid hsz;have HF:=Lib.hid hf
   clear hap hr hrv hsz hf
   go_enter Tryz.func19,Tryz.ntmps19
   go_wp2_with fail
   refine(zH _ K7 _).mono ?_
   rintro e w2 ⟨rfl,hB2⟩
   rw[HAP.out]
   go_wp2_with fail
   go_ret3
   exact YD.bad HR.out hB2
  ·have hr:=zn.chain_newE hap hl
   have hl':(l.length:Int)≤2000:=by omega
   have hl2:l.length≤2000:=by omega
   subst hv
   have HAP:=Lib.hid hap;have HR:=Lib.hid hr;have HRV:=Lib.hid hrv;have HSZ:=Lib.hid hsz;have HF:=Lib.hid hf
   clear hap hr hrv hsz hf
   clear hl
   go_enter Tryz.func19,Tryz.ntmps19
   go_wp2_with fail
   refine(zH _ K7 _).mono ?_
   rintro e w2 ⟨rfl,hB2⟩
   rw[HAP.out]
   obtain⟨w3,hw3⟩:∃W,W=w2.alloc (.cells codesC 47):=⟨_,rfl⟩
   have hB3:Below w2.heap.size w2 w3:=by rw[hw3];exact(Below.refl _ _).alloc (Nat.le_refl _) _
   have hcod:w3.heap[w2.heap.size]? =some (.cells codesC 47 (0,0)):=by rw[hw3];exact heap_alloc_new _ _
   have hzc:=qw hcod
   have hrv3:=(HRV.out.below hB2).below hB3
   have HBw3:=Lib.hid (hB2.trans (hB3.mono hB2.size))
   have hs3:=HBw3.out.size
   unfold codesC at hw3
   have HW3:=Lib.hid hw3;have HCOD:=Lib.hid hcod;have HRV3:=Lib.hid hrv3
   clear hw3 hcod hrv3
   clear hB2 hB3
   go_wp2_with fail
   rw[← HW3.out]
   go_loopw [8,9] (fun rv _ wr=>∃r:Nat,2≤r∧r≤11∧rv= .int .i64 (r:Int)∧zn.yY qf l=zn.vY qf l (11-r) r∧(3≤r→zn.jH l)∧Below w3.heap.size w3 wr) (fun rv _ _=>11-(intOf rv).toNat)
   case atStart=>exact⟨2,by omega,by omega,rfl,HR.out,(fun h=>by omega),Below.refl _ _⟩
   case round=>
    obtain⟨r,hr2,hr11,rfl,hne,hnm,hB⟩:=hrel
    have hsr:=hB.size
    have HNE:=Lib.hid hne;have HNM:=Lib.hid hnm;have HB:=Lib.hid hB
    clear hne hnm hB
    by_cases h10:r≤10
    ·have h10':(r:Int)≤10:=by omega
     have hr2':(2:Int)≤(r:Int):=by omega
     go_wp2_with fail
     obtain⟨wo,hwo⟩:∃wo:World,wo=wr:=⟨_,rfl⟩
     subst hwo
     go_loopw [23,9] (fun kv _ wi=>∃k:Nat,k≤l.length∧kv= .int .i64 (k:Int)∧(∀j,j<k→zn.Qm qf l r j=false)∧Below w3.heap.size w3 wi) (fun kv _ _=>l.length-(intOf kv).toNat)
     case atStart=>exact⟨0,Nat.zero_le _,rfl,(fun j h=>by omega),HB.out⟩
     case round=>
      obtain⟨k,hk,rfl,hno,hBi⟩:=hrel
      have hsi:=hBi.size
      have HNO:=Lib.hid hno;have HBI:=Lib.hid hBi
      clear hno hBi
      by_cases hlt:k<l.length
      ·have hcall:=rbreaks_any qf HAP.out l k hlt hl2 HSZ.out r hr2 h10 (fun h=>HNM.out (by omega)) _ wr (HRV3.out.below HBI.out)
       cases hb:zn.Qm qf l r k
       ·have yR:∀j,j<k+1→zn.Qm qf l r j=false:=fun j h=>by
         rcases Nat.lt_or_ge j k with h' | h'
         ·exact HNO.out j h'
         ·obtain rfl:j=k:=by omega
          exact hb
        rw[hb]at hcall
        have uO:=Lib.hid yR;have HB:=Lib.hid hb;have Qd:=Lib.hid hcall
        clear yR hb hcall
        go_wp2_with fail
        refine Qd.out.mono ?_
        rintro e w5 ⟨rfl,hB5⟩
        have HB5:=Lib.hid (HBI.out.trans (hB5.mono hsi))
        clear hB5
        go_wp2_with fail
        go_roundw
        case rel=>exact⟨k+1,by omega,by go_num,uO.out,HB5.out⟩
        case measure=>simp[intOf];omega
       ·have hres:zn.yY qf l=some ((k:Int),zn.codeR r):=by
         rw[HNE.out,show 11-r=(10-r)+1 by omega]
         exact zn.chain_hit hlt hb HNO.out
        rw[hb]at hcall
        have HB:=Lib.hid hb;have Qd:=Lib.hid hcall;have zb:=Lib.hid hres
        clear hb hcall hres
        go_wp2_with fail
        refine Qd.out.mono ?_
        rintro e w5 ⟨rfl,hB5⟩
        have HB5:=Lib.hid (HBI.out.trans (hB5.mono hsi))
        have hcc:=(HB5.out.cell (p:=⟨w2.heap.size,r,none⟩) hzc).trans (codes_at HCOD.out r hr2 h10)
        have e1:=qh hcc
        have lr:(0:Int)≤(r:Int):=by omega
        have lr2:(r:Int)<11:=by omega
        clear hB5 hcc
        go_wp2_with fail
        refine qj (by kernel_rfl) (by kernel_rfl) ?_
        repeat (with_reducible refine wpQuiet_step (fun K hK=>?_);go_simp;(try simp only[undef]);first | (with_reducible refine hK _ ?_;clear hK K))
        refine wpQuiet_nil ?_
        (try simp only[show Value.tuple #[]=undef from rfl])
        intro W hW
        have hBW:Below w5.heap.size w5 W:=by obtain⟨g,rfl⟩:=hW;exact qp _ g
        clear hW
        have HBW:=Lib.hid (HBw3.out.trans ((HB5.out.trans (hBW.mono HB5.out.size)).mono hs3))
        clear hBW e1
        go_wp2_with fail
        go_ret3
        exact YD.bad zb.out HBW.out
      ·obtain rfl:k=l.length:=by omega
       have hst:zn.yY qf l=if r=5∧zn.hasB l qf 6=false then some (-1,15) else if r=6∧zn.hasB l qf 2=false then some (-1,16) else zn.vY qf l (11-(r+1)) (r+1):=by
        rw[HNE.out,show 11-r=(11-(r+1))+1 by omega]
        exact zn.chain_miss HNO.out
       have hnm2:3≤r+1→zn.jH l:=fun h=>by
        by_cases h3:3≤r
        ·exact HNM.out h3
        ·obtain rfl:r=2:=by omega
         intro x hx
         obtain⟨j,hj,rfl⟩:=List.getElem_of_mem hx
         have:=HNO.out j hj
         have h2:zn.atB l zn.jV j=false:=this
         rw[zn.uN hj]at h2
         unfold zn.jV at h2
         cases hh:ql l[j].owner
         ·rw[hh]at h2;simp at h2
         ·rfl
       have hhas:=fun n hn t=>rhas_any l (by omega) HSZ.out n hn t _ wr (HRV3.out.below HBI.out)
       have HNM2:=Lib.hid hnm2;have HHAS:=Lib.hid hhas
       clear hnm2 hhas
       by_cases h5:r=5
       ·have b5:((r:Int) == 5)=true:=by rw[beq_iff_eq];omega
        have b6:((r:Int) == 6)=false:=by rw[beq_eq_false_iff_ne];omega
        cases hh:zn.hasB l qf 6
        ·have hres:zn.yY qf l=some (-1,15):=by rw[hst,if_pos ⟨h5,hh⟩]
         have H5:=Lib.hid h5;have HH:=Lib.hid hh;have zb:=Lib.hid hres
         clear h5 hh hres
         clear hst
         go_wp2_with fail
         refine(HHAS.out qf K7 6).mono ?_
         rintro e w5 ⟨rfl,hB5⟩
         rw[HH.out]
         have HB5:=Lib.hid (HBw3.out.trans ((HBI.out.trans (hB5.mono hsi)).mono hs3))
         clear hB5
         go_wp2_with fail
         go_ret3
         exact YD.bad zb.out HB5.out
        ·have hres:zn.yY qf l=zn.vY qf l (11-(r+1)) (r+1):=by rw[hst,if_neg (fun h=>by rw[hh]at h;exact absurd h.2 (by simp)),if_neg (fun h=>by omega)]
         have H5:=Lib.hid h5;have HH:=Lib.hid hh;have zb:=Lib.hid hres
         clear h5 hh hres
         clear hst
         go_wp2_with fail
         refine(HHAS.out qf K7 6).mono ?_
         rintro e w5 ⟨rfl,hB5⟩
         rw[HH.out]
         have HB5:=Lib.hid (HBI.out.trans (hB5.mono hsi))
         clear hB5
         go_wp2_with fail
         go_roundw
         case rel=>exact⟨r+1,by omega,by omega,by go_num,zb.out,HNM2.out,HB5.out⟩
         case measure=>simp[intOf];omega
       ·have b5:((r:Int) == 5)=false:=by rw[beq_eq_false_iff_ne];omega
        rw[if_neg (fun h=>h5 h.1)]at hst
        by_cases h6:r=6
        ·have b6:((r:Int) == 6)=true:=by rw[beq_iff_eq];omega
         cases hh:zn.hasB l qf 2
         ·have hres:zn.yY qf l=some (-1,16):=by rw[hst,if_pos ⟨h6,hh⟩]
          have H5:=Lib.hid h5;have H6:=Lib.hid h6;have HH:=Lib.hid hh;have zb:=Lib.hid hres
          clear h5 h6 hh hres
          clear hst
          go_wp2_with fail
          refine(HHAS.out qf K7 2).mono ?_
          rintro e w5 ⟨rfl,hB5⟩
          rw[HH.out]
          have HB5:=Lib.hid (HBw3.out.trans ((HBI.out.trans (hB5.mono hsi)).mono hs3))
          clear hB5
          go_wp2_with fail
          go_ret3
          exact YD.bad zb.out HB5.out
         ·have hres:zn.yY qf l=zn.vY qf l (11-(r+1)) (r+1):=by rw[hst,if_neg (fun h=>by rw[hh]at h;exact absurd h.2 (by simp))]
          have H5:=Lib.hid h5;have H6:=Lib.hid h6;have HH:=Lib.hid hh;have zb:=Lib.hid hres
          clear h5 h6 hh hres
          clear hst
          go_wp2_with fail
          refine(HHAS.out qf K7 2).mono ?_
          rintro e w5 ⟨rfl,hB5⟩
          rw[HH.out]
          have HB5:=Lib.hid (HBI.out.trans (hB5.mono hsi))
          clear hB5
          go_wp2_with fail
          go_roundw
          case rel=>exact⟨r+1,by omega,by omega,by go_num,zb.out,HNM2.out,HB5.out⟩
          case measure=>simp[intOf];omega
        ·have b6:((r:Int) == 6)=false:=by rw[beq_eq_false_iff_ne];omega
         rw[if_neg (fun h=>h6 h.1)]at hst
         have H5:=Lib.hid h5;have H6:=Lib.hid h6;have HST:=Lib.hid hst
         clear h5 h6 hst
         go_wp2_with fail
         go_roundw
         case rel=>exact⟨r+1,by omega,by omega,by go_num,HST.out,HNM2.out,HBI.out⟩
         case measure=>simp[intOf];omega
    ·have h10':(10:Int)<(r:Int):=by omega
     have hres:zn.yY qf l=none:=by
      rw[HNE.out,show 11-r=0 by omega]
      rfl
     have hpos:0<l.length:=rules_pos (zn.QC hres).rules
     have hs:=rsorted_any l.length l (Nat.le_refl _) (by omega) (HNM.out (by omega)) _ wr HF.out (HRV3.out.below HB.out)
     have zb:=Lib.hid hres;have HS:=Lib.hid hs
     clear hres hs
     go_wp2_with fail
     refine HS.out.mono ?_
     rintro e w5 ⟨v5,L,rfl,hB5,hso,hown⟩
     obtain⟨g,c5,rfl⟩:∃g c5,v5= .slice (some ⟨g,0,none⟩) L.length c5:=by
      obtain⟨g,c,hv,_⟩:=hown.form (by rw[hso.1.length_eq];exact hpos)
      exact⟨g,c,hv⟩
     have hz5:=HB.out.trans (hB5.mono hsr)
     have hrec:=qO hown
     have HPOST:Hid (YD qf l w (.returned (.tuple #[.pointer (some ⟨w5.heap.size,0,none⟩),.int .i64 0,.int .i64 0])) (w5.alloc (.cells #[.string qf,.slice (some ⟨g,0,none⟩) L.length c5] 44))):=by
      have hA:Below w5.heap.size w5 (w5.alloc (.cells #[.string qf,.slice (some ⟨g,0,none⟩) L.length c5] 44)):=(Below.refl _ _).alloc (Nat.le_refl _) _
      exact Lib.hid (YD.good zb.out (HBw3.out.trans ((hz5.trans (hA.mono hz5.size)).mono hs3)) hso ⟨g,c5,qo rfl,hrec.below hA⟩)
     clear hz5 hrec hB5 hso hown
     go_wp2_with fail
     go_ret3
     exact HPOST.out
end Go.Proofs.YtdjjemajfphjaaaGreat
