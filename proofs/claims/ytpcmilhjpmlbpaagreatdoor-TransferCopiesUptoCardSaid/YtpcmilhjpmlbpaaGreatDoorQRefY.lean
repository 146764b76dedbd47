import Derived.Test.YtpcmilhjpmlbpaaGreatDoorQRefV
import Derived.Test.YtpcmilhjpmlbpaaGreatDoorQRefW
set_option maxRecDepth 100000
set_option maxHeartbeats 4000000
namespace Go.Proofs.YtpcmilhjpmlbpaaGreatDoor
open Go.RowKit Go.Shelf nm od
theorem rbreaks_10 (qf:ByteArray)(l:List Rec)(k:Nat)(hk:k<l.length)(hl:l.length≤2000)(hn:zn.jy l)(v:Value)(w:World)(hrv:qz w v l):
 Calls Tryz.prog 81 #[.int .i64 10,.string qf,v,.int .i64 k] w fun e w'=>e= .returned (.bool (zn.xX (zn.qE l) l[k]))∧Below w.heap.size w w':=by
 have hsz:∀r∈l,r.owner.size≤1099511627776:=fun r hr=>by have:=qQ (hn r hr);omega
 obtain⟨b,off,cap,rfl,hcap⟩:=kV hrv hk
 obtain⟨hb,c0,c1,c2,c3,c4⟩:=qN hrv hk
 have hki:(k:Int)<(l.length:Int):=by omega
 obtain⟨w1,hw1⟩:∃W,W=w.alloc (.cells (recC l[k]).toArray 80):=⟨_,rfl⟩
 obtain⟨hB1,hz1,hx⟩:=zw w w1 l[k] hw1
 have xA:=hrv.below hB1
 have lt1:w.heap.size<w1.heap.size:=by omega
 have hso:=hsz l[k] (List.getElem_mem hk)
 obtain⟨x0,x1,x2,x3,x4⟩:=id hx
 have HW1:=Lib.hid hw1;have HB1:=Lib.hid hB1;have HZ1:=Lib.hid hz1;have HX:=Lib.hid hx;have HRV:=Lib.hid hrv;have Q3:=Lib.hid xA;have HSZ:=Lib.hid hsz
 clear hw1 hB1 hz1 hx hrv xA hsz
 have hs1:=HB1.out.size
 have HN:=Lib.hid hn
 clear hn
 go_enter Tryz.func81,Tryz.ntmps81
 go_wp2_with fail
 rw[← HW1.out]
 clear c0 c1 c2 c3 c4 x0 x1 x2 x3 x4
 go_loopw [15] (fun jv wr=>∃j:Nat,j≤k∧jv= .int .i64 (j:Int)∧(l[k].typ≠46→∀i (hi:i<l.length),i<j→zn.zV l[i]≠zn.zV l[k])∧Below w1.heap.size w1 wr) (fun jv _=>k-(intOf jv).toNat)
 case atStart=>exact⟨0,Nat.zero_le _,rfl,(fun _ i hi h=>by omega),Below.refl _ _⟩
 case round=>
  obtain⟨j,hj,rfl,hno,hB⟩:=hrel
  by_cases hlt:j<k
  ·have hjl:j<l.length:=by omega
   have hji:(j:Int)<(l.length:Int):=by omega
   obtain⟨hb',ra⟩:=qN Q3.out hjl
   obtain⟨y0,y1,y2,y3,y4⟩:=ra.keep (hB.block _ hb')
   obtain⟨x0,x1,x2,x3,x4⟩:=HX.out.keep (hB.block _ lt1)
   have e0:=qh y0
   have e1:=qh y1
   have e3:=qh y3
   have f0:=qh x0
   have f1:=qh x1
   have f3:=qh x3
   have sj:=HSZ.out _ (List.getElem_mem hjl)
   have hsr:=hB.size
   clear x0 x1 x2 x3 x4 y0 y1 y2 y3 y4
   have nj:=HN.out _ (List.getElem_mem hjl)
   have nk:=HN.out _ (List.getElem_mem hk)
   have hkey:=zn.key_iff nj nk
   have hnx:(l[k].typ≠46→zn.zV l[j]≠zn.zV l[k])→l[k].typ≠46→∀i (hi:i<l.length),i<j+1→zn.zV l[i]≠zn.zV l[k]:=fun h9 h46 i hi h=>by
    rcases Nat.lt_or_ge i j with h' | h'
    ·exact hno h46 i hi h'
    ·obtain rfl:i=j:=by omega
     exact h9 h46
   by_cases h46:l[k].typ=46
   ·have b46:(l[k].typ != 46)=false:=by rw[h46];rfl
    have yF:=hnx (fun h=>absurd h46 h)
    clear nj nk hkey
    have H46:=Lib.hid h46;have HNO:=Lib.hid hno;have HB:=Lib.hid hB;have kG:=Lib.hid yF
    clear h46 hno hB yF
    clear hnx
    go_wp2_with fail
    refine ql (by kernel_rfl) (by kernel_rfl) ?_
    repeat (with_reducible refine wpQuiet_step (fun K hK=>?_);go_simp;(try simp only[undef]);first | (with_reducible refine hK _ ?_;clear hK K) | (apply Exists.intro;refine⟨fun _=>?_,hK _ ?_⟩;(first | (fail));clear hK K) | (with_reducible refine⟨fun _ h=>(by cases h),?_⟩;with_reducible refine hK _ ?_;clear hK K))
    refine wpQuiet_nil ?_
    (try simp only[show Value.tuple #[]=undef from rfl])
    intro W hW
    have hBW:Below wr.heap.size wr W:=by obtain⟨g,rfl⟩:=hW;exact qC _ g
    clear hW
    have HBW:=Lib.hid (HB.out.trans (hBW.mono hsr))
    clear hBW
    go_wp2_with fail
    go_roundw
    case rel=>exact⟨j+1,by omega,by go_num,kG.out,HBW.out⟩
    case measure=>simp[intOf];omega
   ·have b46:(l[k].typ != 46)=true:=by rw[bne_iff_ne];exact h46
    by_cases ht:l[j].typ=l[k].typ
    ·have bt:(l[j].typ == l[k].typ)=true:=by rw[beq_iff_eq];exact ht
     cases he:qF l[j].owner l[k].owner
     ·have yF:=hnx (fun _ h=>by
       have:=(hkey.1 h).2
       rw[he]at this
       cases this)
      have CE:Hid (∀g,Calls Tryz.prog 55 #[.string l[j].owner,.string l[k].owner] (gw wr g) fun e w''=>e= .returned (.bool false)∧∃g',w''=gw wr g'):=Lib.hid fun g=>qU (by rw[← he];exact yn _ _ sj hso _)
      clear nj nk hkey
      have H46:=Lib.hid h46;have HNO:=Lib.hid hno;have HB:=Lib.hid hB;have kG:=Lib.hid yF;have HT:=Lib.hid ht;have HE:=Lib.hid he
      clear h46 hno hB yF ht he
      clear hnx
      go_wp2_with fail
      refine ql (by kernel_rfl) (by kernel_rfl) ?_
      repeat (with_reducible refine wpQuiet_step (fun K hK=>?_);go_simp;(try simp only[undef]);first | (with_reducible refine hK _ ?_;clear hK K) | (apply Exists.intro;refine⟨fun _=>?_,hK _ ?_⟩;(first | (go_at_call 55;with_reducible exact CE.out _));clear hK K) | (with_reducible refine⟨fun _ h=>(by cases h),?_⟩;with_reducible refine hK _ ?_;clear hK K))
      refine wpQuiet_nil ?_
      (try simp only[show Value.tuple #[]=undef from rfl])
      intro W hW
      have hBW:Below wr.heap.size wr W:=by obtain⟨g,rfl⟩:=hW;exact qC _ g
      clear hW
      have HBW:=Lib.hid (HB.out.trans (hBW.mono hsr))
      clear hBW
      go_wp2_with fail
      go_roundw
      case rel=>exact⟨j+1,by omega,by go_num,kG.out,HBW.out⟩
      case measure=>simp[intOf];omega
     ·have hres:zn.xX (zn.qE l) l[k]=decide (l[j].ttl≠l[k].ttl):=zn.bad6_hit hk hjl h46 (hkey.2 ⟨ht,he⟩) (hno h46)
      have CE:Hid (∀g,Calls Tryz.prog 55 #[.string l[j].owner,.string l[k].owner] (gw wr g) fun e w''=>e= .returned (.bool true)∧∃g',w''=gw wr g'):=Lib.hid fun g=>qU (by rw[← he];exact yn _ _ sj hso _)
      clear nj nk hkey
      have H46:=Lib.hid h46;have HNO:=Lib.hid hno;have HB:=Lib.hid hB;have HT:=Lib.hid ht;have HE:=Lib.hid he;have zA:=Lib.hid hres
      clear h46 hno hB ht he hres
      clear hnx
      go_wp2_with fail
      refine ql (by kernel_rfl) (by kernel_rfl) ?_
      repeat (with_reducible refine wpQuiet_step (fun K hK=>?_);go_simp;(try simp only[undef]);first | (with_reducible refine hK _ ?_;clear hK K) | (apply Exists.intro;refine⟨fun _=>?_,hK _ ?_⟩;(first | (go_at_call 55;with_reducible exact CE.out _));clear hK K) | (with_reducible refine⟨fun _ h=>(by cases h),?_⟩;with_reducible refine hK _ ?_;clear hK K))
      refine wpQuiet_nil ?_
      (try simp only[show Value.tuple #[]=undef from rfl])
      intro W hW
      have hBW:Below wr.heap.size wr W:=by obtain⟨g,rfl⟩:=hW;exact qC _ g
      clear hW
      have HBW:=Lib.hid (HB.out.trans (hBW.mono hsr))
      clear hBW
      obtain⟨y0,y1,y2,y3,y4⟩:=(qN Q3.out hjl).2.keep (HBW.out.block _ hb')
      obtain⟨x0,x1,x2,x3,x4⟩:=HX.out.keep (HBW.out.block _ lt1)
      have g3:=qh y3
      have g4:=qh x3
      clear x0 x1 x2 x3 x4 y0 y1 y2 y3 y4 e0 e1 e3 f0 f1 f3
      go_wp2_with fail
      refine ql (by kernel_rfl) (by kernel_rfl) ?_
      repeat (with_reducible refine wpQuiet_step (fun K hK=>?_);go_simp;(try simp only[undef]);first | (with_reducible refine hK _ ?_;clear hK K))
      refine wpQuiet_nil ?_
      (try simp only[show Value.tuple #[]=undef from rfl])
      intro W2 hW2
      have xB:Below W.heap.size W W2:=by obtain⟨g,rfl⟩:=hW2;exact qC _ g
      clear hW2
      have xQ:=Lib.hid (HB1.out.trans ((HBW.out.trans (xB.mono HBW.out.size)).mono hs1))
      clear xB
      go_wp2_with fail
      go_ret
      exact⟨qI (by rw[zA.out];by_cases h:l[j].ttl=l[k].ttl <;> simp[h]),xQ.out⟩
    ·have bt:(l[j].typ == l[k].typ)=false:=by rw[beq_eq_false_iff_ne];exact ht
     have yF:=hnx (fun _ h=>ht (hkey.1 h).1)
     clear nj nk hkey
     have H46:=Lib.hid h46;have HNO:=Lib.hid hno;have HB:=Lib.hid hB;have kG:=Lib.hid yF;have HT:=Lib.hid ht
     clear h46 hno hB yF ht
     clear hnx
     go_wp2_with fail
     refine ql (by kernel_rfl) (by kernel_rfl) ?_
     repeat (with_reducible refine wpQuiet_step (fun K hK=>?_);go_simp;(try simp only[undef]);first | (with_reducible refine hK _ ?_;clear hK K) | (apply Exists.intro;refine⟨fun _=>?_,hK _ ?_⟩;(first | (fail));clear hK K) | (with_reducible refine⟨fun _ h=>(by cases h),?_⟩;with_reducible refine hK _ ?_;clear hK K))
     refine wpQuiet_nil ?_
     (try simp only[show Value.tuple #[]=undef from rfl])
     intro W hW
     have hBW:Below wr.heap.size wr W:=by obtain⟨g,rfl⟩:=hW;exact qC _ g
     clear hW
     have HBW:=Lib.hid (HB.out.trans (hBW.mono hsr))
     clear hBW
     go_wp2_with fail
     go_roundw
     case rel=>exact⟨j+1,by omega,by go_num,kG.out,HBW.out⟩
     case measure=>simp[intOf];omega
  ·obtain rfl:j=k:=by omega
   have hres:zn.xX (zn.qE l) l[j]=false:=by
    by_cases h46:l[j].typ=46
    ·exact zn.bad6_sig h46
    ·exact zn.bad6_miss hk (hno h46)
   have HBE:=Lib.hid (HB1.out.trans (hB.mono hs1))
   have HNO:=Lib.hid hno;have HB:=Lib.hid hB;have zA:=Lib.hid hres
   clear hno hB hres
   go_wp2_with fail
   go_ret
   exact⟨qI zA.out.symm,HBE.out⟩
end Go.Proofs.YtpcmilhjpmlbpaaGreatDoor
namespace Go.Proofs.YtpcmilhjpmlbpaaGreatDoor
open Go.RowKit Go.Shelf nm od
namespace zn
def xN (qf:ByteArray)(l:List Rec)(r k:Nat):Bool:=
 if r=2 then atB l jq k else if r=3 then atB l (fun x=>!zx x.owner qf) k else if r=4 then jk l k else if r=5 then xu qf l k
 else if r=6 then false else if r=7 then atB l Qy k else if r=8 then atB l (Zy (j6 l)) k else if r=9 then atB l (vo (qw qf) (qE l) (zt l)) k else atB l (xX (qE l)) k
def codeR (r:Nat):Int:=if r=2 then 8 else if r=3 then 5 else if r=4 then 19 else if r=5 then 15 else if r=7 then 22 else if r=8 then 17 else if r=9 then 18 else if r=10 then 21 else 0
def vg (qf:ByteArray)(l:List Rec):Nat→Nat→Option (Int×Int)
 | 0,_=>none
 | f+1,r=>match zh (xN qf l r) l.length with
   | some k=>some (k,codeR r)
   | none=>if r=5∧hasB l qf 6=false then some (-1,15) else if r=6∧hasB l qf 2=false then some (-1,16) else vg qf l f (r+1)
theorem has_rows {l:List Rec}{n:ByteArray}(hn:jy l)(hc:qj n=true)(t:Int):hasB l n t=true↔qE l (qw n,t)≠[]:=by
 unfold hasB
 rw[List.any_eq_true]
 constructor
 ·rintro⟨r,hr,h⟩ e
  simp only[Bool.and_eq_true,decide_eq_true_eq]at h
  have:=(zO (hn r hr) hc).1 h.2
  have hm:r∈qE l (qw n,t):=jI.2 ⟨hr,by unfold zV;rw[this,h.1]⟩
  rw[e]at hm
  simp at hm
 ·intro h
  obtain⟨r,hr⟩:=List.exists_mem_of_ne_nil _ h
  obtain⟨h1,h2⟩:=jI.1 hr
  unfold zV at h2
  simp only[Prod.mk.injEq]at h2
  exact⟨r,h1,by rw[decide_eq_true h2.2,(zO (hn r h1) hc).2 h2.1];rfl⟩
theorem has_soa {l:List Rec}{qf:ByteArray}(h:zh (xu qf l) l.length=none):hasB l qf 6=false↔xq l=0:=by
 rw[YW,Bool.eq_false_iff]
 unfold hasB
 rw[ne_eq,List.any_eq_true]
 constructor
 ·intro hh r hr h6
  exact hh ⟨r,hr,by rw[decide_eq_true h6,(QL.1 h).2 r hr h6];rfl⟩
 ·rintro hh ⟨r,hr,h2⟩
  simp only[Bool.and_eq_true,decide_eq_true_eq]at h2
  exact hh r hr h2.1
theorem firstB_false (n:Nat):zh (fun _=>false) n=none:=uO fun _ _=>rfl
theorem jU {qf:ByteArray}{l:List Rec}{f r k:Nat}(h:zh (xN qf l r) l.length=some k):vg qf l (f+1) r=some ((k:Int),codeR r):=by
 rw[vg,h]
theorem jo {qf:ByteArray}{l:List Rec}{f r:Nat}(h:zh (xN qf l r) l.length=none):vg qf l (f+1) r=if r=5∧hasB l qf 6=false then some (-1,15) else if r=6∧hasB l qf 2=false then some (-1,16) else vg qf l f (r+1):=by
 rw[vg,h]
theorem chain_newE {qf:ByteArray}{l:List Rec}(hc:qj qf=true)(hl:¬2000<l.length):yx qf l=vg qf l 9 2:=by
 have e2:xN qf l 2=atB l jq:=rfl
 have e3:xN qf l 3=atB l (fun x=>!zx x.owner qf):=rfl
 have e4:xN qf l 4=jk l:=rfl
 have e5:xN qf l 5=xu qf l:=rfl
 have e6:xN qf l 6=fun _=>false:=rfl
 have e7:xN qf l 7=atB l Qy:=rfl
 have e8:xN qf l 8=atB l (Zy (j6 l)):=rfl
 have e9:xN qf l 9=atB l (vo (qw qf) (qE l) (zt l)):=rfl
 have e10:xN qf l 10=atB l (xX (qE l)):=rfl
 unfold yx
 rw[if_neg (by rw[hc];simp),if_neg hl]
 unfold yZ
 cases h2:zh (atB l jq) l.length with
 | some k=>rw[jU (f:=8) (r:=2) (by rw[e2];exact h2)];rfl
 | none=>
   have hn:jy l:=fun r hr=>by
    have:=uD.1 h2 r hr
    unfold jq at this
    cases hh:qj r.owner
    ·rw[hh]at this;simp at this
    ·rfl
   rw[jo (f:=8) (r:=2) (by rw[e2];exact h2)]
   simp only[show ¬(2=5∧hasB l qf 6=false) from fun h=>by omega,show ¬(2=6∧hasB l qf 2=false) from fun h=>by omega,if_false]
   cases h3:zh (atB l fun r=>!zx r.owner qf) l.length with
   | some k=>rw[jU (f:=7) (r:=3) (by rw[e3];exact h3)];rfl
   | none=>
     rw[jo (f:=7) (r:=3) (by rw[e3];exact h3)]
     simp only[show ¬(3=5∧hasB l qf 6=false) from fun h=>by omega,show ¬(3=6∧hasB l qf 2=false) from fun h=>by omega,if_false]
     unfold zB
     cases h4:zh (jk l) l.length with
     | some k=>rw[jU (f:=6) (r:=4) (by rw[e4];exact h4)];rfl
     | none=>
       rw[jo (f:=6) (r:=4) (by rw[e4];exact h4)]
       simp only[show ¬(4=5∧hasB l qf 6=false) from fun h=>by omega,show ¬(4=6∧hasB l qf 2=false) from fun h=>by omega,if_false]
       cases h5:zh (xu qf l) l.length with
       | some k=>rw[jU (f:=5) (r:=5) (by rw[e5];exact h5)];rfl
       | none=>
         rw[jo (f:=5) (r:=5) (by rw[e5];exact h5)]
         simp only
         by_cases s0:xq l=0
         ·rw[if_pos s0,if_pos ⟨by trivial,(has_soa h5).2 s0⟩]
         ·have q56:¬(5=6∧hasB l qf 2=false):=fun h=>by omega
          have q65:¬(6=5∧hasB l qf 6=false):=fun h=>by omega
          have q5:¬(True∧hasB l qf 6=false):=fun h=>s0 ((has_soa h5).1 h.2)
          rw[if_neg s0,if_neg q5,if_neg q56,jo (f:=4) (r:=6) (by rw[e6];exact firstB_false _),if_neg q65]
          by_cases n0:(qE l (qw qf,2)).length=0
          ·have:hasB l qf 2=false:=by
            rw[Bool.eq_false_iff]
            intro h
            exact(has_rows hn hc 2).1 h (List.eq_nil_of_length_eq_zero n0)
           rw[if_pos n0,if_pos ⟨by trivial,this⟩]
          ·have:¬hasB l qf 2=false:=by
            intro h
            have h2:=(has_rows hn hc 2).2 (fun e=>n0 (by rw[e];rfl))
            rw[h]at h2
            cases h2
           rw[if_neg n0,if_neg (fun h=>this h.2)]
           cases h7:zh (atB l Qy) l.length with
           | some k=>rw[jU (f:=3) (r:=7) (by rw[e7];exact h7)];rfl
           | none=>
             rw[jo (f:=3) (r:=7) (by rw[e7];exact h7)]
             simp only[show ¬(7=5∧hasB l qf 6=false) from fun h=>by omega,show ¬(7=6∧hasB l qf 2=false) from fun h=>by omega,if_false]
             cases h8:zh (atB l (Zy (j6 l))) l.length with
             | some k=>rw[jU (f:=2) (r:=8) (by rw[e8];exact h8)];rfl
             | none=>
               rw[jo (f:=2) (r:=8) (by rw[e8];exact h8)]
               simp only[show ¬(8=5∧hasB l qf 6=false) from fun h=>by omega,show ¬(8=6∧hasB l qf 2=false) from fun h=>by omega,if_false]
               cases h9:zh (atB l (vo (qw qf) (qE l) (zt l))) l.length with
               | some k=>rw[jU (f:=1) (r:=9) (by rw[e9];exact h9)];rfl
               | none=>
                 rw[jo (f:=1) (r:=9) (by rw[e9];exact h9)]
                 simp only[show ¬(9=5∧hasB l qf 6=false) from fun h=>by omega,show ¬(9=6∧hasB l qf 2=false) from fun h=>by omega,if_false]
                 cases h10:zh (atB l (xX (qE l))) l.length with
                 | some k=>rw[jU (f:=0) (r:=10) (by rw[e10];exact h10)];rfl
                 | none=>
                   rw[jo (f:=0) (r:=10) (by rw[e10];exact h10)]
                   simp only[show ¬(10=5∧hasB l qf 6=false) from fun h=>by omega,show ¬(10=6∧hasB l qf 2=false) from fun h=>by omega,if_false]
                   rfl
theorem chain_hit {qf:ByteArray}{l:List Rec}{f r k:Nat}(hk:k<l.length)(h:xN qf l r k=true)(hb:∀j,j<k→xN qf l r j=false):vg qf l (f+1) r=some ((k:Int),codeR r):=by
 rw[jU (U0 hk h hb)]
theorem chain_miss {qf:ByteArray}{l:List Rec}{f r:Nat}(h:∀j,j<l.length→xN qf l r j=false):vg qf l (f+1) r=if r=5∧hasB l qf 6=false then some (-1,15) else if r=6∧hasB l qf 2=false then some (-1,16) else vg qf l f (r+1):=by
 rw[jo (uO h)]
end zn
theorem rbreaks_any (qf:ByteArray)(hap:qj qf=true)(l:List Rec)(k:Nat)(hk:k<l.length)(hl:l.length≤2000)(hsz:∀r∈l,r.owner.size≤1099511627776)(r:Nat)(h2:2≤r)(h10:r≤10)(hn:4≤r→zn.jy l)(v:Value)(w:World)(hrv:qz w v l):
 Calls Tryz.prog 81 #[.int .i64 (r:Int),.string qf,v,.int .i64 k] w fun e w'=>e= .returned (.bool (zn.xN qf l r k))∧Below w.heap.size w w':=by
 have Vf:qf.size≤1099511627776:=by have:=qQ hap;omega
 match r,h2,h10 with
 | 2,_,_=>
   have e:zn.xN qf l 2 k=zn.jq l[k]:=zn.uf hk
   rw[e]
   exact rbreaks_2 qf l k hk hl hsz v w hrv
 | 3,_,_=>
   have e:zn.xN qf l 3 k=(fun x:Rec=>!zx x.owner qf) l[k]:=zn.uf hk
   rw[e]
   exact rbreaks_3 qf Vf l k hk hl hsz v w hrv
 | 4,_,_=>exact rbreaks_4 qf l k hk hl (hn (by omega)) v w hrv
 | 5,_,_=>exact rbreaks_5 qf Vf l k hk hl (hn (by omega)) v w hrv
 | 6,_,_=>exact rbreaks_6 qf l k hk hl (hn (by omega)) v w hrv
 | 7,_,_=>
   have e:zn.xN qf l 7 k=zn.Qy l[k]:=zn.uf hk
   rw[e]
   exact rbreaks_7 qf l k hk hl (hn (by omega)) v w hrv
 | 8,_,_=>
   have e:zn.xN qf l 8 k=(zn.Zy (zn.j6 l)) l[k]:=zn.uf hk
   rw[e]
   exact rbreaks_8 qf l k hk hl (hn (by omega)) v w hrv
 | 9,_,_=>
   have e:zn.xN qf l 9 k=(zn.vo (qw qf) (zn.qE l) (zn.zt l)) l[k]:=zn.uf hk
   rw[e]
   exact rbreaks_9 qf hap l k hk hl (hn (by omega)) v w hrv
 | 10,_,_=>
   have e:zn.xN qf l 10 k=(zn.xX (zn.qE l)) l[k]:=zn.uf hk
   rw[e]
   exact rbreaks_10 qf l k hk hl (hn (by omega)) v w hrv
end Go.Proofs.YtpcmilhjpmlbpaaGreatDoor
namespace Go.Proofs.YtpcmilhjpmlbpaaGreatDoor
open Go.RowKit Go.Shelf nm od
def QQ (w:World)(z:Nat)(qf:ByteArray)(L:List Rec):Prop:=
 ∃g cap,w.heap[z]? =some (.cells #[.string qf,.slice (some ⟨g,0,none⟩) L.length cap] 58 (0,0))∧qz w (.slice (some ⟨g,0,none⟩) L.length cap) L
theorem QQ.below {w w':World}{z:Nat}{qf:ByteArray}{L:List Rec}(h:QQ w z qf L)(hb:Below w.heap.size w w'):QQ w' z qf L:=by
 obtain⟨g,cap,h1,h2⟩:=h
 exact⟨g,cap,(hb.block z (qo h1)).trans h1,h2.below hb⟩
def RMake (qf:ByteArray)(l:List Rec)(w:World)(e:Ending)(w':World):Prop:=Below w.heap.size w w'∧match zn.yx qf l with
 | some (k,c)=>e= .returned (.tuple #[.pointer none,.int .i64 k,.int .i64 c])
 | none=>∃z L,zI l L∧e= .returned (.tuple #[.pointer (some ⟨z,0,none⟩),.int .i64 0,.int .i64 0])∧QQ w' z qf L
theorem RMake.bad {qf:ByteArray}{l:List Rec}{w w':World}{k c:Int}(h:zn.yx qf l=some (k,c))(hB:Below w.heap.size w w'):RMake qf l w (.returned (.tuple #[.pointer none,.int .i64 k,.int .i64 c])) w':=by
 refine⟨hB,?_⟩
 rw[h]
theorem RMake.good {qf:ByteArray}{l L:List Rec}{w w':World}{z:Nat}(h:zn.yx qf l=none)(hB:Below w.heap.size w w')(hs:zI l L)(hz:QQ w' z qf L):RMake qf l w (.returned (.tuple #[.pointer (some ⟨z,0,none⟩),.int .i64 0,.int .i64 0])) w':=by
 refine⟨hB,?_⟩
 rw[h]
 exact⟨z,L,hs,rfl,hz⟩
def codesC:Array Value:=#[.int .i64 0,.int .i64 0,.int .i64 8,.int .i64 5,.int .i64 19,.int .i64 15,.int .i64 0,.int .i64 22,.int .i64 17,.int .i64 18,.int .i64 21]
theorem codes_at {w:World}{b:Nat}(h:w.heap[b]? =some (.cells codesC 47 (0,0)))(r:Nat)(h2:2≤r)(h10:r≤10):w.cell? ⟨b,r,none⟩=some (.int .i64 (zn.codeR r)):=by
 rw[qg h]
 match r,h2,h10 with
 | 2,_,_=>rfl
 | 3,_,_=>rfl
 | 4,_,_=>rfl
 | 5,_,_=>rfl
 | 6,_,_=>rfl
 | 7,_,_=>rfl
 | 8,_,_=>rfl
 | 9,_,_=>rfl
 | 10,_,_=>rfl
end Go.Proofs.YtpcmilhjpmlbpaaGreatDoor
