import Derived.Test.YtpcmilhjpmlbpaaGreatDoorQRefA
set_option maxRecDepth 100000
set_option maxHeartbeats 4000000
namespace Go.Proofs.YtpcmilhjpmlbpaaGreatDoor
open Go.RowKit Go.Shelf Go.WideMaps nm
namespace zn
def vg (l:List Rec)(κ:ByteArray×Int×ByteArray):Nat:=(l.filter λr=>decide (yJ r=κ)).length
def jP (l:List Rec)(k:Nat):Bool:=match l[k]? with
 | some r=>decide (0<vg (l.take k) (yJ r))
 | none=>false
def Qi (l:List Rec):Nat:=l.foldl (λc r=>Vs r c) 0
def Qj (qf:ByteArray)(l:List Rec)(k:Nat):Bool:=match l[k]? with
 | some r=>JK qf (Qi (l.take k)) r
 | none=>false
def kZ (l:List Rec)(n:ByteArray):Int:=((l.filter λr=>!decide (r.typ=46) && !decide (r.typ=47) && decide (qy r.owner=n)).length:Nat)
def vF (low:ByteArray):List ByteArray:=(List.range (qM low).toNat).map λi:Nat=>zQ low (qM low-1-i)
def zD (l:List Rec)(n:ByteArray):Int:=(((l.flatMap λr=>vF (qy r.owner)).filter λa=>decide (a=n)).length:Nat)
def zS (qf:ByteArray)(l:List Rec):Option (Int×Int):=
 match zq (jP l) l.length with
 | some k=>some (k,19)
 | none=>match zq (Qj qf l) l.length with
   | some k=>some (k,15)
   | none=>if Qi l=0 then some (-1,15) else if(qJ l (qy qf,2)).length=0 then some (-1,16) else
     match zq (atB l Zh) l.length with
     | some k=>some (k,22)
     | none=>match zq (atB l (YE (kZ l))) l.length with
       | some k=>some (k,17)
       | none=>match zq (atB l (xA (qy qf) (qJ l) (zD l))) l.length with
         | some k=>some (k,18)
         | none=>match zq (atB l (QS (qJ l))) l.length with
           | some k=>some (k,21)
           | none=>none
theorem cntFull_app (l:List Rec)(r:Rec)(κ:ByteArray×Int×ByteArray):vg (l ++ [r]) κ=if κ=yJ r then vg l κ+1 else vg l κ:=by
 unfold vg;rw[List.filter_append,gK];by_cases h:yJ r=κ
 ·rw[if_pos h.symm];simp[h]
 ·rw[if_neg (λe=>h e.symm)];simp[h]
theorem cntFull_le (l:List Rec)(κ:ByteArray×Int×ByteArray):vg l κ<=l.length:=List.length_filter_le _ _
theorem soaC_app (l:List Rec)(r:Rec):Qi (l ++ [r])=Vs r (Qi l):=by unfold Qi;rw[List.foldl_append];rfl
theorem soaC_le (l:List Rec):Qi l<=l.length:=by
 have h:∀(l:List Rec) (c:Nat),l.foldl (λc r=>Vs r c) c<=c+l.length:=by
  intro l
  induction l with
  | nil=>intro c;simp
  | cons r l ih=>
    intro c;have h1:=ih (Vs r c);have h2:Vs r c<=c+1:=by unfold Vs;split <;> omega
    simp only[List.foldl_cons,Ha];omega
 have:=h l 0;unfold Qi;omega
theorem allF_app (l:List Rec)(r:Rec)(n:ByteArray):kZ (l ++ [r]) n=if r.typ≠46/\r.typ≠47/\n=qy r.owner then kZ l n+1 else kZ l n:=by
 unfold kZ;rw[List.filter_append,gK];by_cases h:r.typ≠46/\r.typ≠47/\n=qy r.owner
 ·rw[if_pos h];obtain⟨h1,h2,h3⟩:=h;simp[h1,h2,h3]
 ·rw[if_neg h];have:(decide (r.typ≠46/\r.typ≠47/\n=qy r.owner))=false:=gp h;rw[List.filter_cons_of_neg]
  ·simp
  ·intro e;simp only[gX,Bool.not_eq_true',decide_eq_false_iff_not,H7]at e;exact h ⟨e.1.1,e.1.2,e.2.symm⟩
theorem belowF_app (l:List Rec)(r:Rec)(n:ByteArray):zD (l ++ [r]) n=zD l n+(((vF (qy r.owner)).filter λa=>decide (a=n)).length:Nat):=by
 unfold zD;rw[List.flatMap_append,List.filter_append,gK];simp
def xB (low:ByteArray)(i:Nat):List ByteArray:=(List.range i).map λi:Nat=>zQ low (qM low-1-i)
theorem aboves_to (low:ByteArray):vF low=xB low (qM low).toNat:=rfl
theorem abovesTo_next (low:ByteArray)(i:Nat):xB low (i+1)=xB low i ++ [zQ low (qM low-1-i)]:=by
 unfold xB;rw[List.range_succ,List.map_append];rfl
def xz (l:List Rec)(low:ByteArray)(i:Nat)(n:ByteArray):Int:=zD l n+(((xB low i).filter λa=>decide (a=n)).length:Nat)
theorem belowI_zero (l:List Rec)(low n:ByteArray):xz l low 0 n=zD l n:=by simp[xz,xB]
theorem belowI_next (l:List Rec)(low:ByteArray)(i:Nat)(n:ByteArray):xz l low (i+1) n=if n=zQ low (qM low-1-i) then xz l low i n+1 else xz l low i n:=by
 unfold xz;rw[abovesTo_next,List.filter_append,gK];by_cases h:n=zQ low (qM low-1-i)
 ·rw[if_pos h];simp[<- h];omega
 ·rw[if_neg h];have h':¬zQ low (qM low-1-i)=n:=λe=>h e.symm;simp[h']
theorem belowF_all (l:List Rec)(r:Rec)(n:ByteArray):zD (l ++ [r]) n=xz l (qy r.owner) (qM (qy r.owner)).toNat n:=by rw[belowF_app,aboves_to];rfl
theorem allF_ge (l:List Rec)(n:ByteArray):0<=kZ l n:=by unfold kZ;omega
theorem allF_le (l:List Rec)(n:ByteArray):kZ l n<=l.length:=by
 unfold kZ;have:=List.length_filter_le (λr:Rec=>!decide (r.typ=46) && !decide (r.typ=47) && decide (qy r.owner=n)) l;omega
theorem belowF_ge (l:List Rec)(n:ByteArray):0<=zD l n:=by unfold zD;omega
theorem belowF_le:∀(l:List Rec) (n:ByteArray),zD l n<=l.length*255
 | [],n=>by simp[zD]
 | r :: l,n=>by
   have h1:=belowF_le l n;have h2:zD (r :: l) n=zD l n+(((vF (qy r.owner)).filter λa=>decide (a=n)).length:Nat):=by
    unfold zD;rw[List.flatMap_cons,List.filter_append,gK];omega
   have h3:=List.length_filter_le (λa:ByteArray=>decide (a=n)) (vF (qy r.owner));have h4:(vF (qy r.owner)).length<=255:=by
    have:=Ka (qy r.owner);unfold vF;simp;omega
   rw[h2,Ha];omega
theorem belowI_ge (l:List Rec)(low:ByteArray)(i:Nat)(n:ByteArray):0<=xz l low i n:=by have:=belowF_ge l n;unfold xz;omega
theorem belowI_le (l:List Rec)(low:ByteArray)(i:Nat)(n:ByteArray)(hi:i<=255):xz l low i n<=l.length*255+255:=by
 have h1:=belowF_le l n;have h3:=List.length_filter_le (λa:ByteArray=>decide (a=n)) (xB low i);have h4:(xB low i).length=i:=by unfold xB;simp
 unfold xz;omega
end zn
theorem rule1_each (l:List Rec)(hl:l.length<=2000)(hok:∀r∈l,(Lit.int .i64 r.typ).wf=true)(rv:Value)(sc m:Nat)(hne:sc≠m)(w1:World)(hrec:∀W,w1.grownBy W (some m)->ql W rv l)
 (hsc:w1.cell? ⟨sc,0,none⟩=some (.map (some m))) (hm:zt KE YZ w1 m λ_=>0):
 Calls Tryz.prog 110 #[rv,.int .i64 19,.func (.func 117) #[] #[.pointer (some ⟨sc,0,none⟩)]] w1 λe w'=>JV l.length 19 (zn.jP l) (λ_ W=>w1.grownBy W (some m)) e w':=by
 have h:=JH 117 #[.pointer (some ⟨sc,0,none⟩)] XH 19 l hl rv (zn.jP l) (λk W=>w1.grownBy W (some m)/\zt KE YZ W m (λκ=>(zn.vg (l.take k) κ:Int)))
  (λk W h=>hrec W h.1) (λk W W' h hb=>⟨h.1.trans ⟨hb.os,hb.tape,hb.output,hb.size,λj hj _=>hb.block j hj⟩,h.2.below hb⟩) (λk hk W h=>by
   obtain⟨hg,hM⟩:=h;have hcl:=zn.cntFull_le (l.take k) (zn.yJ l[k]);have htl:(l.take k).length<=2000:=by simp;omega
   refine(rules1_any k l[k] (hok _ (Ht hk)) sc m _ (zn.vg (l.take k) (zn.yJ l[k])) W (hg.cell hsc (by simpa using hne)) hne hM rfl (by omega)).mono ?_;rintro e W' ⟨rfl,hg',hM'⟩;refine⟨?_,hg.trans hg',hM'.congr λκ=>?_⟩
   ·unfold zn.jP;rw[List.getElem?_eq_getElem hk]
   ·rw[gV hk,zn.cntFull_app]
    split
    ·rename_i e;rw[e]
    ·rfl) w1 ⟨World.grownBy.refl _ _,hm.congr λκ=>by simp[zn.vg]⟩
 refine h.mono ?_;intro e w' hp;rcases hp with⟨k,h1,h2,h3,h4,h5⟩|⟨h1,h2,h3⟩
 ·exact .inl ⟨k,h1,h2,h3,h4,h5.1⟩
 ·exact .inr ⟨h1,h2,h3.1⟩
theorem rule2_each (qf:ByteArray)(l:List Rec)(hl:l.length<=2000)(rv sv tv:Value)(s4 bx z:Nat)(w1:World)(hrec:∀W,w1.grownBy W (some s4)->ql W rv l)
 (hs4:w1.heap[s4]? =some (.cells #[.int .i64 0] 3 (0,0))) (hbx:w1.cell? ⟨bx,0,none⟩=some (.pointer (some ⟨z,0,none⟩))) (hz:kR w1 z qf rv sv tv):
 Calls Tryz.prog 110 #[rv,.int .i64 15,.func (.func 119) #[] #[.pointer (some ⟨s4,0,none⟩),.pointer (some ⟨bx,0,none⟩)]] w1 λe w'=>
  JV l.length 15 (zn.Qj qf l) (λk W=>w1.grownBy W (some s4)/\W.heap[s4]? =some (.cells #[.int .i64 ((zn.Qi (l.take k):Nat):Int)] 3 (0,0))) e w':=by
 have n1:bx≠s4:=λe=>by subst e;rw[qg hs4]at hbx;simp at hbx
 have n2:z≠s4:=UW hz hs4 (by simp)
 exact JH 119 #[.pointer (some ⟨s4,0,none⟩),.pointer (some ⟨bx,0,none⟩)] XG 15 l hl rv (zn.Qj qf l) (λk W=>w1.grownBy W (some s4)/\W.heap[s4]? =some (.cells #[.int .i64 ((zn.Qi (l.take k):Nat):Int)] 3 (0,0)))
  (λk W h=>hrec W h.1) (λk W W' h hb=>⟨h.1.trans ⟨hb.os,hb.tape,hb.output,hb.size,λj hj _=>hb.block j hj⟩,(hb.block s4 (qA h.2)).trans h.2⟩) (λk hk W h=>by
   obtain⟨hg,hM⟩:=h;have hcl:=zn.soaC_le (l.take k);have htl:(l.take k).length<=2000:=by simp;omega
   refine(rules2_any k l[k] s4 bx z (zn.Qi (l.take k)) (by omega) qf rv sv tv W hM (hg.cell hbx (by simpa using n1)) ((hg.block z (qA hz) (by simpa using n2)).trans hz)).mono ?_;rintro e W' ⟨rfl,hg',hM'⟩;refine⟨?_,hg.trans hg',?_⟩
   ·unfold zn.Qj;rw[List.getElem?_eq_getElem hk]
   ·rw[gV hk,zn.soaC_app];exact hM') w1 ⟨World.grownBy.refl _ _,hs4⟩
theorem J5 (g:FuncId)(lb:Array Value)(heg:∀args w,(callFunc g args).run Tryz.prog w= .ok (.enter g args) w)(code:Int)(l:List Rec)(hl:l.length<=2000)(rv:Value)(bad:Rec->Bool)(w1:World)(hrec:∀W,Below w1.heap.size w1 W->ql W rv l)
 (hcall:∀(k:Nat) (hk:k<l.length) W,Below w1.heap.size w1 W->Calls Tryz.prog g (#[.int .i64 (k:Int),yf l[k]] ++ lb) W λe W'=>e= .returned (.bool (bad l[k]))/\Below W.heap.size W W'):
 Calls Tryz.prog 110 #[rv,.int .i64 code,.func (.func g) #[] lb] w1 λe w'=>JV l.length code (zn.atB l bad) (λ_ W=>Below w1.heap.size w1 W) e w':=
 JH g lb heg code l hl rv (zn.atB l bad) (λ_ W=>Below w1.heap.size w1 W) (λ_ W h=>hrec W h) (λ_ W W' h h'=>h.trans (h'.mono h.size)) (λk hk W h=>by
  refine(hcall k hk W h).mono ?_;rintro e W' ⟨rfl,hb⟩;exact⟨by rw[zn.uP hk],h.trans (hb.mono h.size)⟩) w1 (gJ _ _)
def MidL (w7:World)(f g:ByteArray->Int)(n:Nat)(wx:World):Prop:=
 Below w7.heap.size w7 wx/\wx.cell? ⟨w7.heap.size+2,0,none⟩=some (.map (some w7.heap.size))/\wx.cell? ⟨w7.heap.size+3,0,none⟩=some (.map (some (w7.heap.size+1)))/\
 zt Value.string xC wx w7.heap.size f/\zt Value.string xC wx (w7.heap.size+1) g/\n<wx.heap.size
theorem rules_any (qf:ByteArray)(l:List Rec)(hl:l.length<=2000)(hok:∀r∈l,qo r.owner=true/\(Lit.int .i64 r.typ).wf=true)(z sb base:Nat)(rv tv:Value)(w:World)
 (hz:kR w z qf rv (.map (some sb)) tv) (hrv:ql w rv l) (hS:yB w base sb (zn.Qu l) (zn.qJ l)):
 Calls Tryz.prog 78 #[.pointer (some ⟨z,0,none⟩)] w λe w'=>Thrown (zn.zS qf l) e/\Below w.heap.size w w':=by
 have hzl:=qA hz;obtain⟨w1,hw1⟩:=yM (((w.alloc (.cells #[.pointer (some ⟨z,0,none⟩)] 43)).alloc (.map #[] 0)).alloc (.cells #[.map (some (w.heap.size+1))] 176));have hs1:w1.heap.size=w.heap.size+3:=by rw[hw1];simp
 have hB1:Below w.heap.size w w1:=by rw[hw1];exact(((gJ _ w).alloc (gI _) _).alloc (by simp) _).alloc (by simp;omega) _
 have hbx:w1.cell? ⟨w.heap.size,0,none⟩=some (.pointer (some ⟨z,0,none⟩)):=by
  rw[hw1];refine qx _ (qx _ ?_);rw[qg (qz rfl)];rfl
 have hsc:w1.cell? ⟨w.heap.size+2,0,none⟩=some (.map (some (w.heap.size+1))):=by
  rw[hw1,qg (qz (by simp))];rfl
 have hm:zt KE YZ w1 (w.heap.size+1) λ_=>0:=by
  rw[hw1];have h1:=zt.made (w.alloc (.cells #[.pointer (some ⟨z,0,none⟩)] 43)) KE YZ;have h2:(w.alloc (.cells #[.pointer (some ⟨z,0,none⟩)] 43)).heap.size=w.heap.size+1:=by simp
  rw[h2]at h1;exact h1.alloc _
 have hzc:w.cell? ⟨z,1,none⟩=some rv:=by rw[qg hz];rfl
 have hza:=λo1 o2 o3=>qx (W:=(w.alloc o1).alloc o2) o3 (qx (W:=w.alloc o1) o2 (qx (W:=w) o1 hzc));have hz1:kR w1 z qf rv (.map (some sb)) tv:=(hB1.block z hzl).trans hz;have hrow:∀(row:Nat) W,w.heap.size<=row->w1.grownBy W (some row)->Below w.heap.size w W:=λrow W h hg=>hB1.grown hg (by omega) (λj e=>by cases e;exact h);have first:=rule1_each l hl (λr hr=>(hok r hr).2) rv (w.heap.size+2) (w.heap.size+1) (by omega) w1 (λW hg=>hrv.below (hrow _ W (by omega) hg)) hsc hm
 have HF:=qe first;have HW:=qe hw1;have HZ:=qe hz;have HZ1:=qe hz1;have HR:=qe hrv;have HS:=qe hS;have HB1:=qe hB1;have jG:=qe hrow;have HBX:=qe hbx;have HOK:=qe hok
 have hmm:=@run_makeMap Tryz.prog;clear first hw1 hz hz1 hrv hS hB1 hrow hbx hsc hm hok
 go_enter Tryz.func78,Tryz.ntmps78
 go_wp2_with fail;rw[<- HW.out];clear hza hzc hmm;refine HF.out.mono ?_;intro e w2 hp;rcases uF (Inv:=λ_ W=>w1.grownBy W (some (w.heap.size+1))) hp with⟨k,hfb,hk,rfl,hg2⟩|⟨hfb,_,rfl,hg2⟩
 ·have hres:zn.zS qf l=some ((k:Int),19):=by unfold zn.zS;rw[hfb]
  have zK:=qe hres;have HG2:=qe (jG.out _ _ (by omega) hg2);clear hp hfb hres hg2;go_wp2_with fail;exact⟨rfl,(by rw[zK.out];rfl),HG2.out⟩
 ·have hB2:=jG.out _ _ (by omega) hg2;have bx2:w2.cell? ⟨w.heap.size,0,none⟩=some (.pointer (some ⟨z,0,none⟩)):=hg2.cell HBX.out (by simp);have hz2:=(hB2.block z hzl).trans HZ.out;have z0:w2.cell? ⟨z,0,none⟩=some (.string qf):=by rw[qg hz2];rfl
  have hs2:w1.heap.size<=w2.heap.size:=hg2.size;have HFB1:=qe hfb;have HB2:=qe hB2;clear hp hfb hg2 hB2;go_wp2_with fail;refine(kU _ _).mono ?_;rintro e w3 ⟨rfl,hB3⟩;obtain⟨low,hlow⟩:=yM (qy qf);rw[<- hlow];have hBw3:=HB2.out.trans (hB3.mono (by omega));have bx3:=(hB3.cell (p:=⟨w.heap.size,0,none⟩) (by show w.heap.size<_;omega)).trans bx2;have hz3:=(hB3.block z (by omega)).trans hz2;have z1:w3.cell? ⟨z,1,none⟩=some rv:=by rw[qg hz3];rfl
  have hs3:w2.heap.size<=w3.heap.size:=hB3.size;obtain⟨w4,hw4⟩:=yM ((w3.alloc (.cells #[.string low] 9)).alloc (.cells #[.int .i64 0] 3));have hs4:w4.heap.size=w3.heap.size+2:=by rw[hw4];simp
  have hB4:Below w3.heap.size w3 w4:=by rw[hw4];exact((gJ _ w3).alloc (gI _) _).alloc (by simp) _
  have hst:w4.heap[w3.heap.size+1]? =some (.cells #[.int .i64 0] 3 (0,0)):=by rw[hw4];exact qz (by simp)
  have hlc:w4.cell? ⟨w3.heap.size,0,none⟩=some (.string low):=by
   rw[hw4];refine qx _ ?_;rw[qg (qz rfl)];rfl
  have bx4:=(hB4.cell (p:=⟨w.heap.size,0,none⟩) (by show w.heap.size<_;omega)).trans bx3;have hz4:=(hB4.block z (by omega)).trans hz3;have hBw4:=hBw3.trans (hB4.mono (by omega));have second:=rule2_each qf l hl rv (.map (some sb)) tv (w3.heap.size+1) w.heap.size z w4 (λW hg=>HR.out.below (hBw4.grown hg (by omega) (λj e=>by cases e;omega))) hst bx4 hz4;have HS2:=qe second;have HW4:=qe hw4;have Ja:=qe hlow;have HBX4:=qe bx4;have HZ4:=qe hz4;have HB4:=qe hBw4;have HLC:=qe hlc;have bza:=λo1 o2=>qx (W:=w3.alloc o1) o2 (qx (W:=w3) o1 bx3);have zza:=λo1 o2=>qx (W:=w3.alloc o1) o2 (qx (W:=w3) o1 z1);clear second hw4 hlow bx4 hz4 hBw4 hlc hst hB4 hBw3 hB3 hz3 hz2 bx2 z0;go_wp2_with fail;rw[<- HW4.out];clear bza zza bx3 z1;refine HS2.out.mono ?_;intro e w5 hp;rcases uF (Inv:=λk W=>w4.grownBy W (some (w3.heap.size+1))/\W.heap[w3.heap.size+1]? =some (.cells #[.int .i64 ((zn.Qi (l.take k):Nat):Int)] 3 (0,0))) hp with⟨k,hfb,hk,rfl,hg5,hs5⟩|⟨hfb,_,rfl,hg5,hs5⟩
  ·have hres:zn.zS qf l=some ((k:Int),15):=by unfold zn.zS;rw[HFB1.out];simp only[hfb]
   have zK:=qe hres;have HG2:=qe (HB4.out.grown hg5 (by omega) (λj e=>by cases e;omega));clear hp hfb hres hg5 hs5;go_wp2_with fail;exact⟨rfl,(by rw[zK.out];rfl),HG2.out⟩
  ·rw[List.take_length]at hs5;have hne4:w.heap.size≠w3.heap.size+1:=by omega
   have hB5:=HB4.out.grown hg5 (by omega) (λj e=>by cases e;omega);have bx5:=hg5.cell HBX4.out (by simpa using hne4);have hz5:=(hB5.block z hzl).trans HZ.out;have low5:=hg5.cell HLC.out (by simp);have st5:w5.cell? ⟨w3.heap.size+1,0,none⟩=some (.int .i64 ((zn.Qi l:Nat):Int)):=by rw[qg hs5];rfl
   have zc5:w5.cell? ⟨z,2,none⟩=some (.map (some sb)):=by rw[qg hz5];rfl
   have hw5:w4.heap.size<=w5.heap.size:=hg5.size;have HFB2:=qe hfb;have HB5:=qe hB5;have HZ5:=qe hz5;clear hp hfb hg5 hs5 hB5 hz5;by_cases h0:zn.Qi l=0
   ·have b1:(((zn.Qi l:Nat):Int) == 0)=true:=by rw[h0];rfl
    have hres:zn.zS qf l=some (-1,15):=by unfold zn.zS;rw[HFB1.out];simp only[HFB2.out];rw[if_pos h0]
    have zK:=qe hres;clear hres h0;go_wp2_with fail;exact⟨rfl,(by rw[zK.out];rfl),HB5.out⟩
   ·have b1:(((zn.Qi l:Nat):Int) == 0)=false:=by rw[gG];omega
    obtain⟨v,hv,hown⟩:=Yi (HS.out.below HB5.out) (F:=zn.qJ l) (λκ h=>zn.Q9 h) (κ:=(low,2)) ⟨by rw[Ja.out];exact YV _,rfl⟩;obtain⟨a,cap,rfl,hcap⟩:=qj hown;obtain⟨n,hn⟩:=yM ((zn.qJ l (low,2)).length);rw[<- hn]at hv hcap;have e1:=qh bx5;have e2:=qh zc5;have e3:=qh low5;have e4:=λp=>hv (gw w5 p) (qD w5 p);have HN:=qe hn;have H0:=qe h0;clear hv hown hn h0;go_wp2_with fail;clear st5;refine qp (by kernel_rfl) (by kernel_rfl) ?_
    repeat (with_reducible refine Hu (λK hK=>?_);go_simp;with_reducible refine hK _ ?_;clear hK K)
    with_reducible refine Hw ?_
    intro W hW;have hBW:Below w5.heap.size w5 W:=by obtain⟨p,rfl⟩:=hW;exact qD w5 p
    clear hW e1 e2 e3 e4;have HBW:=qe hBW;clear hBW;by_cases hn0:n=0
    ·have b2:((n:Int) == 0)=true:=by rw[hn0];rfl
     have hres:zn.zS qf l=some (-1,16):=by unfold zn.zS;rw[HFB1.out];simp only[HFB2.out];rw[if_neg H0.out,if_pos (by rw[<- Ja.out,<- HN.out];exact hn0)]
     have zK:=qe hres;clear hres hn0;go_wp2_with fail;exact⟨rfl,(by rw[zK.out];rfl),HB5.out.trans (HBW.out.mono (by omega))⟩
    ·have b2:((n:Int) == 0)=false:=by rw[gG];omega
     have hB6:=HB5.out.trans (HBW.out.mono (by omega));have bx6:=(HBW.out.cell (p:=⟨w.heap.size,0,none⟩) (by show w.heap.size<_;omega)).trans bx5;have low6:=(HBW.out.cell (p:=⟨w3.heap.size,0,none⟩) (by show w3.heap.size<_;omega)).trans low5;have hz6:=(hB6.block z hzl).trans HZ.out;have z6:W.cell? ⟨z,1,none⟩=some rv:=by rw[qg hz6];rfl
     have hs6:=HBW.out.size;have third:=J5 120 #[] XF 22 l hl rv zn.Zh W (λX hX=>HR.out.below (hB6.trans (hX.mono (by omega)))) (λk hk X hX=>rules3_any k l[k] X);have HT:=qe third;have HB6:=qe hB6;have HZ6:=qe hz6;have HLOW6:=qe low6;have HN0:=qe hn0;clear third hB6 hz6 low6 hn0 low5 zc5;go_wp2_with fail;clear z6;refine HT.out.mono ?_;intro e w7 hp;rcases uF (Inv:=λ_ X=>Below W.heap.size W X) hp with⟨k,hfb,hk,rfl,hB7⟩|⟨hfb,_,rfl,hB7⟩
     ·have hres:zn.zS qf l=some ((k:Int),22):=by unfold zn.zS;rw[HFB1.out];simp only[HFB2.out];rw[if_neg H0.out,if_neg (by rw[<- Ja.out,<- HN.out];exact HN0.out)];simp only[hfb]
      have zK:=qe hres;clear hp hfb hres;go_wp2_with fail;exact⟨rfl,(by rw[zK.out];rfl),HB6.out.trans (hB7.mono (by omega))⟩
     ·have hs7:W.heap.size<=w7.heap.size:=hB7.size;have hBw7:=HB6.out.trans (hB7.mono (by omega));have bx7:=(hB7.cell (p:=⟨w.heap.size,0,none⟩) (by show w.heap.size<_;omega)).trans bx6;have hz7:=(hBw7.block z hzl).trans HZ.out;have z7:w7.cell? ⟨z,1,none⟩=some rv:=by rw[qg hz7];rfl
      have low7:=(hB7.cell (p:=⟨w3.heap.size,0,none⟩) (by show w3.heap.size<_;omega)).trans HLOW6.out;obtain⟨w8,hw8⟩:=yM ((((w7.alloc (.map #[] 0)).alloc (.map #[] 0)).alloc (.cells #[.map (some w7.heap.size)] 115)).alloc (.cells #[.map (some (w7.heap.size+1))] 115));have hs8:w8.heap.size=w7.heap.size+4:=by rw[hw8];simp
      have hB8:Below w7.heap.size w7 w8:=by rw[hw8];exact((((gJ _ w7).alloc (gI _) _).alloc (by simp) _).alloc (by simp;omega) _).alloc (by simp;omega) _
      have t5:w8.cell? ⟨w7.heap.size+2,0,none⟩=some (.map (some w7.heap.size)):=by
       rw[hw8];refine qx _ ?_;rw[qg (qz (by simp))];rfl
      have t6:w8.cell? ⟨w7.heap.size+3,0,none⟩=some (.map (some (w7.heap.size+1))):=by
       rw[hw8,qg (qz (by simp))];rfl
      have hma:zt Value.string xC w8 w7.heap.size (zn.kZ (l.take 0)):=by
       rw[hw8];exact((((zt.made w7 Value.string xC).alloc _).alloc _).alloc _).congr λa=>by simp[zn.kZ]
      have hmb:zt Value.string xC w8 (w7.heap.size+1) (zn.zD (l.take 0)):=by
       rw[hw8];have h1:=zt.made (w7.alloc (.map #[] 0)) Value.string xC;have h2:(w7.alloc (.map #[] 0)).heap.size=w7.heap.size+1:=by simp
       rw[h2]at h1;exact((h1.alloc _).alloc _).congr λa=>by simp[zn.zD]
      have HB8:=qe hB8;have HT5:=qe t5;have HT6:=qe t6;have HMA:=qe hma;have HMB:=qe hmb;clear hB8 t5 t6 hma hmb;have HBX7:=qe bx7;have HFB3:=qe hfb;have HB7:=qe hBw7;have HZ7:=qe hz7;have HLOW7:=qe low7;have HW8:=qe hw8;have hmm:=@run_makeMap Tryz.prog;have bza:=λo1 o2 o3 o4=>qx (W:=((w7.alloc o1).alloc o2).alloc o3) o4 (qx (W:=(w7.alloc o1).alloc o2) o3 (qx (W:=w7.alloc o1) o2 (qx (W:=w7) o1 bx7)));have zza:=λo1 o2 o3 o4=>qx (W:=((w7.alloc o1).alloc o2).alloc o3) o4 (qx (W:=(w7.alloc o1).alloc o2) o3 (qx (W:=w7.alloc o1) o2 (qx (W:=w7) o1 z7)));obtain⟨a,cap,rfl,hcap,_⟩:=HR.out;clear hp hfb hB7 hBw7 hz7 low7 hw8;go_wp2_with fail;rw[<- HW8.out];clear bza zza hmm bx7 z7
      go_loopw [55,8,9] (λkv _ _ wr=>∃k:Nat,k<=l.length/\kv= .int .i64 k/\Below w7.heap.size w7 wr/\wr.cell? ⟨w7.heap.size+2,0,none⟩=some (.map (some w7.heap.size))/\
       wr.cell? ⟨w7.heap.size+3,0,none⟩=some (.map (some (w7.heap.size+1)))/\zt Value.string xC wr w7.heap.size (zn.kZ (l.take k))/\zt Value.string xC wr (w7.heap.size+1) (zn.zD (l.take k)))
       (λkv _ _ _=>l.length-(intOf kv).toNat)
      case atStart=>exact⟨0,gU _,rfl,HB8.out,HT5.out,HT6.out,HMA.out,HMB.out⟩
      case round=>
       obtain⟨k,hk,rfl,hB,t5,t6,hma,hmb⟩:=hrel;have hsr:=Qe t6;have hsr':w7.heap.size+3<wr.heap.size:=hsr;have hBW:=HB7.out.trans (hB.mono (by omega));by_cases hlt:k<l.length
       ·obtain⟨a',cap',hv,_,hr⟩:=ql.below HR.out hBW;simp only[gL,true_and]at hv;obtain⟨rfl,rfl⟩:=hv;obtain⟨b,off,rfl,hbl,c0,c1,c2,c3,c4⟩:=hr k hlt;obtain⟨hck,hty⟩:=HOK.out l[k] (Ht hlt);have HB:=qe hB;have HMA:=qe hma;have HMB:=qe hmb;have HCK:=qe hck;have HTY:=qe hty;have HBW:=qe hBW;clear hr hB hma hmb hck hty hBW hsr;go_wp2_with fail;refine(kU _ _).mono ?_;rintro e w9 ⟨rfl,hB9⟩;have k1:=(hB9.cell (p:=⟨wr.heap.size,1,none⟩) (by simp)).trans (q8 wr l[k] 80 1 _ rfl);have hs9:wr.heap.size+1<=w9.heap.size:=by have:=hB9.size;simpa using this
        have hBr9:Below wr.heap.size wr w9:=((gJ _ wr).alloc (gI _) _).trans (hB9.mono (by simp));have u5:=(hBr9.cell (p:=⟨w7.heap.size+2,0,none⟩) (by show w7.heap.size+2<_;omega)).trans t5;have u6:=(hBr9.cell (p:=⟨w7.heap.size+3,0,none⟩) (by show w7.heap.size+3<_;omega)).trans t6;have hB79:=HB.out.trans (hBr9.mono (by omega));have hma9:=HMA.out.below hBr9;have hmb9:=HMB.out.below hBr9;clear c0 c1 c2 c3 c4 hB9 hBr9 t5 t6;obtain⟨nm,hnm⟩:=yM (qy l[k].owner);rw[<- hnm];have HNM:=qe hnm;have HB79:=qe hB79;have HMB9:=qe hmb9;have hnz:xC nm:=by rw[hnm];exact YV _
        have hNZ:=qe hnz;clear hnm hB79 hmb9 hnz;have htk:(l.take k).length=k:=by simp;omega
        obtain⟨ls0,hls0⟩:=yO HCK.out;obtain⟨ls,hls⟩:∃ls,rows nm=some ls:=⟨_,by rw[HNM.out];exact vL hls0⟩;have hcn:qM nm=ls.length:=Qw hls;have hln:ls.length<=255:=by have:=Ka nm;omega
        obtain⟨y,hy⟩:=yM (zn.kZ (l.take k) nm);have ha0:=zn.allF_le (l.take k) nm;have ha1:=zn.allF_ge (l.take k) nm;rw[<- hy]at ha0 ha1;rw[htk]at ha0;have ha2:y<=2000:=by omega
        have hlk:=hma9.look strE Tryz.underlying115 hNZ.out;rw[<- hy]at hlk;obtain⟨w10,hup,jg,hm10⟩:=hma9.put strE Tryz.underlying115 hNZ.out (y+1);have vZ:=HB79.out.grown jg (by omega) (λj e=>by cases e;omega);have v5:=jg.cell u5 (by simp);have v6:=jg.cell u6 (by simp);have hmb10:=HMB9.out.grown jg (by simp);have hs10:w9.heap.size<=w10.heap.size:=jg.size
        have hma10:l[k].typ≠46->l[k].typ≠47->zt Value.string xC w10 w7.heap.size (zn.kZ (l.take (k+1))):=λn1 n2=>by
         refine hm10.congr λc=>?_;rw[gV hlt,zn.allF_app,<- HNM.out];by_cases e:c=nm
         ·rw[if_pos e,if_pos ⟨n1,n2,e⟩,e,hy]
         ·rw[if_neg e,if_neg (λh=>e h.2.2)]
        have hma11:¬(l[k].typ≠46/\l[k].typ≠47)->zt Value.string xC w9 w7.heap.size (zn.kZ (l.take (k+1))):=λn1=>by
         refine hma9.congr λc=>?_;rw[gV hlt,zn.allF_app,if_neg (λh=>n1 ⟨h.1,h.2.1⟩)]
        have HMA10:=qe hma10;have HMA11:=qe hma11;have yt:=qe vZ;have HMB10:=qe hmb10;have V5:=qe v5;have V6:=qe v6;have U5:=qe u5;have U6:=qe u6;have HLS:=qe hls;have HCN:=qe hcn;clear hma10 hma11 vZ hmb10 v5 v6 hls hls0 hcn hma9 hm10 jg hy htk;obtain⟨bb,hbb⟩:=yM ((!decide (l[k].typ=46) && !decide (l[k].typ=47)));have HBB:=qe hbb;clear hbb;go_upto_region 16 with fail
        go_cut [69] (λs wx=>s= .bool bb/\wx=w9)
        case first=>
         by_cases h46:l[k].typ=46
         ·have b1:(l[k].typ != 46)=false:=by rw[Hy];exact h46
          have H46:=qe h46;clear h46;go_wp2_with fail;go_meet;exact⟨by rw[HBB.out,gF H46.out];rfl,rfl⟩
         ·have b1:(l[k].typ != 46)=true:=by rw[bne_iff_ne];exact h46
          by_cases h47:l[k].typ=47
          ·have b2:(l[k].typ != 47)=false:=by rw[Hy];exact h47
           have H47:=qe h47;clear h46 h47;go_wp2_with fail;go_meet;exact⟨by rw[HBB.out,gF H47.out];simp,rfl⟩
          ·have b2:(l[k].typ != 47)=true:=by rw[bne_iff_ne];exact h47
           have H46:=qe h46;have H47:=qe h47;clear h46 h47;go_wp2_with fail;go_meet;exact⟨by rw[HBB.out,gp H46.out,gp H47.out];rfl,rfl⟩
        case rest=>
        obtain⟨rfl,rfl⟩:=hcut
        go_upto_if 69 with fail
        go_cut [] (λwx=>MidL w7 (zn.kZ (l.take (k+1))) (zn.zD (l.take k)) wr.heap.size wx)
        case first=>
         cases bb
         ·go_wp2_with fail;go_meet;exact⟨HB79.out,U5.out,U6.out,HMA11.out (λh=>by have:=HBB.out;rw[gp h.1,gp h.2]at this;simp at this),HMB9.out,hs9⟩
         ·go_wp2_with fail;go_meet;have h:=HBB.out;simp only[Bool.true_eq,gX,Bool.not_eq_true',decide_eq_false_iff_not]at h;exact⟨yt.out,V5.out,V6.out,HMA10.out h.1 h.2,HMB10.out,by omega⟩
        case rest=>
         obtain⟨hBc,p5,p6,hmac,hmbc,hsc⟩:=hcut;have HBC:=qe hBc;have HMAC:=qe hmac;have HMBC:=qe (hmbc.congr (λc=>(zn.belowI_zero (l.take k) nm c).symm));have P5:=qe p5;have P6:=qe p6;clear hBc hmac hmbc p5 p6 hlk hup k1 u5 u6 HMA HMB HMB9 HMA10 HMA11 yt HMB10 V5 V6 U5 U6 HB79 ha0 ha1 ha2;obtain⟨wo,hwo⟩:=yM wr;subst hwo;go_wp2_with fail
         go_loopw [9] (λnv wr=>∃i:Nat,i<=ls.length/\nv= .string (zQ nm ((ls.length:Int)-(i:Int)))/\MidL w7 (zn.kZ (l.take (k+1))) (zn.xz (l.take k) nm i) wo.heap.size wr) (λnv _=>match nv with | .string s=>(qM s).toNat | _=>0)
         case atStart=>exact⟨0,gU _,by simp only[Int.natCast_zero,Int.sub_zero];rw[JW HLS.out],HBC.out,P5.out,P6.out,HMAC.out,HMBC.out,hsc⟩
         case round=>
          obtain⟨i,hi,rfl,hBc,p5,p6,hmac,hmbc,hsc⟩:=hrel;have hct:qM (zQ nm ((ls.length:Int)-(i:Int)))=(ls.length:Int)-(i:Int):=count_tail HLS.out (by omega) (by omega);have HBC:=qe hBc;have HMAC:=qe hmac;have HMBC:=qe hmbc;have P5:=qe p5;have P6:=qe p6;have HCT:=qe hct;clear hBc hmac hmbc p5 p6 hct;go_wp2_with fail;refine(YC _ _).mono ?_;rintro e wq ⟨rfl,hBq⟩;rw[HCT.out];have p6:=(hBq.cell (p:=⟨w7.heap.size+3,0,none⟩) (by show w7.heap.size+3<_;omega)).trans P6.out;have p5:=(hBq.cell (p:=⟨w7.heap.size+2,0,none⟩) (by show w7.heap.size+2<_;omega)).trans P5.out;have hsq:wr.heap.size<=wq.heap.size:=hBq.size;have HBQ:=qe (HBC.out.trans (hBq.mono (by omega)));have HMAQ:=qe (HMAC.out.below hBq);have HMBQ:=qe (HMBC.out.below hBq);have P5:=qe p5;have P6:=qe p6;clear hBq p5 p6 HBC HMAC HMBC;by_cases hq:i<ls.length
          ·have hpos:0<(ls.length:Int)-(i:Int):=by omega
           have hpar:UE (zQ nm ((ls.length:Int)-(i:Int)))=zQ nm ((ls.length:Int)-((i+1:Nat):Int)):=by
            rw[Xd HLS.out (by omega) (by omega)]
            congr 1
            omega
           have HPAR:=qe hpar;clear hpar;go_wp2_with fail;refine(parent_any _ _).mono ?_;rintro e wp ⟨rfl,hBp⟩;rw[HPAR.out];obtain⟨nn,hnn⟩:=yM (zQ nm ((ls.length:Int)-((i+1:Nat):Int)));rw[<- hnn];have hnz:xC nn:=by
            have:=(yc (uw HLS.out (k:=(ls.length:Int)-((i+1:Nat):Int)) (by omega) (by omega)).2).1;rw[<- hnn]at this;show nn.size<=maxLen;unfold maxLen;omega
           have p6:=(hBp.cell (p:=⟨w7.heap.size+3,0,none⟩) (by show w7.heap.size+3<_;omega)).trans P6.out;have p5:=(hBp.cell (p:=⟨w7.heap.size+2,0,none⟩) (by show w7.heap.size+2<_;omega)).trans P5.out;have hmbp:=HMBQ.out.below hBp;have hmap:=HMAQ.out.below hBp;have hsp:wq.heap.size<=wp.heap.size:=hBp.size;have hBp2:=HBQ.out.trans (hBp.mono (by omega));obtain⟨y,hy⟩:=yM (zn.xz (l.take k) nm i nn);have ha0:=zn.belowI_le (l.take k) nm i nn (by omega);have ha1:=zn.belowI_ge (l.take k) nm i nn;have htk:(l.take k).length=k:=by simp;omega
           rw[<- hy]at ha0 ha1;rw[htk]at ha0;have ha2:y<=600000:=by omega
           have hlk:=hmbp.look strE Tryz.underlying115 hnz;rw[<- hy]at hlk;obtain⟨wu,hup,hgu,hmu⟩:=hmbp.put strE Tryz.underlying115 hnz (y+1);have hBu:=hBp2.grown hgu (by omega) (λj e=>by cases e;omega);have v5:=hgu.cell p5 (by simp);have v6:=hgu.cell p6 (by simp);have hmau:=hmap.grown hgu (by simp);have hsu:wp.heap.size<=wu.heap.size:=hgu.size;have hmbu:zt Value.string xC wu (w7.heap.size+1) (zn.xz (l.take k) nm (i+1)):=by
            refine hmu.congr λc=>?_;rw[zn.belowI_next,show qM nm-1-((i:Nat):Int)=(ls.length:Int)-((i+1:Nat):Int) from by rw[HCN.out];omega,<- hnn];by_cases e:c=nn
            ·rw[if_pos e,if_pos e,e,hy]
            ·rw[if_neg e,if_neg e]
           have HBU:=qe hBu;have V5:=qe v5;have V6:=qe v6;have HMAU:=qe hmau;have HMBU:=qe hmbu;have HNN:=qe hnn;clear hBu v5 v6 hmau hmbu hnn hnz p5 hmbp hmap hBp2 hBp hy ha0 htk hgu hmu;go_wp2_with fail
           go_roundw
           case rel=>exact⟨i+1,by omega,by rw[HNN.out],HBU.out,V5.out,V6.out,HMAU.out,HMBU.out,by omega⟩
           case measure=>
            rw[HNN.out];show(qM (zQ nm _)).toNat<(qM (zQ nm _)).toNat;rw[count_tail HLS.out (by omega) (by omega),HCT.out];omega
          ·have hnp:¬0<(ls.length:Int)-(i:Int):=by omega
           have hmbu:zt Value.string xC wq (w7.heap.size+1) (zn.zD (l.take (k+1))):=by
            refine HMBQ.out.congr λc=>?_;rw[gV hlt,zn.belowF_all,<- HNM.out,HCN.out,Int.toNat_natCast,show i=ls.length from by omega]
           have HMBU:=qe hmbu;clear hmbu;go_wp2_with fail
           go_roundw
           case rel=>exact⟨k+1,by omega,by go_num,HBQ.out,P5.out,P6.out,HMAQ.out,HMBU.out⟩
           case measure=>simp[intOf];omega
       ·have hke:k=l.length:=by omega
        subst hke;rw[List.take_length]at hma hmb;have bx8:=(hB.cell (p:=⟨w.heap.size,0,none⟩) (by show w.heap.size<_;omega)).trans HBX7.out;have hz8:=(hBW.block z hzl).trans HZ.out;have z8:wr.cell? ⟨z,1,none⟩=some (.slice a l.length cap):=by rw[qg hz8];rfl
        have low8:=(hB.cell (p:=⟨w3.heap.size,0,none⟩) (by show w3.heap.size<_;omega)).trans HLOW7.out;have hbl:=Qe bx8
        have fourth:=J5 122 #[.pointer (some ⟨w7.heap.size+2,0,none⟩)] XE 17 l hl (.slice a l.length cap) (zn.YE (zn.kZ l)) wr (λX hX=>ql.below HR.out (hBW.trans (hX.mono (by omega))))
         (λk hk X hX=>rules4_any k l[k] (w7.heap.size+2) w7.heap.size (zn.kZ l) X ((hX.cell (p:=⟨w7.heap.size+2,0,none⟩) (by show w7.heap.size+2<_;omega)).trans t5) (hma.below hX))
        have fifth:=J5 123 #[.pointer (some ⟨w3.heap.size,0,none⟩),.pointer (some ⟨w.heap.size,0,none⟩),.pointer (some ⟨w7.heap.size+3,0,none⟩)] XD 18 l hl (.slice a l.length cap) (zn.xA low (zn.qJ l) (zn.zD l));have sixth:=J5 124 #[.pointer (some ⟨w.heap.size,0,none⟩)] XC 21 l hl (.slice a l.length cap) (zn.QS (zn.qJ l));have hB8w:=hBW;have HB8W:=qe hB8w;have HBX8:=qe bx8;have HZ8:=qe hz8;have HLOW8:=qe low8;have HMB8:=qe hmb;have HT68:=qe t6;have HFO:=qe fourth;have HFI:=qe fifth;have HSI:=qe sixth;clear fourth fifth sixth hB8w hBW hma hmb hz8 low8 hB;go_wp2_with fail;refine HFO.out.mono ?_;intro e w9 hp;rcases uF (Inv:=λ_ X=>Below wr.heap.size wr X) hp with⟨k,hfb,hk,rfl,hB9⟩|⟨hfb,_,rfl,hB9⟩
        ·have hres:zn.zS qf l=some ((k:Int),17):=by unfold zn.zS;rw[HFB1.out];simp only[HFB2.out];rw[if_neg H0.out,if_neg (by rw[<- Ja.out,<- HN.out];exact HN0.out)];simp only[HFB3.out,hfb]
         have zK:=qe hres;clear hp hfb hres;go_wp2_with fail;exact⟨rfl,(by rw[zK.out];rfl),HB8W.out.trans (hB9.mono (by omega))⟩
        ·have hs9:wr.heap.size<=w9.heap.size:=hB9.size;have hBw9:=HB8W.out.trans (hB9.mono (by omega));have bx9:=(hB9.cell (p:=⟨w.heap.size,0,none⟩) (by show w.heap.size<_;omega)).trans HBX8.out;have hz9:=(hBw9.block z hzl).trans HZ.out;have z9:w9.cell? ⟨z,1,none⟩=some (.slice a l.length cap):=by rw[qg hz9];rfl
         have low9:=(hB9.cell (p:=⟨w3.heap.size,0,none⟩) (by show w3.heap.size<_;omega)).trans HLOW8.out;have t69:=(hB9.cell (p:=⟨w7.heap.size+3,0,none⟩) (by show w7.heap.size+3<_;omega)).trans HT68.out;have hmb9:=HMB8.out.below hB9
         have fi:=HFI.out w9 (λX hX=>ql.below HR.out (hBw9.trans (hX.mono (by omega))))
          (λk hk X hX=>rules5_any k l[k] w3.heap.size w.heap.size (w7.heap.size+3) (w7.heap.size+1) z sb base low qf (zn.Qu l) (zn.qJ l) (zn.zD l) (.slice a l.length cap) tv X ((hX.cell (p:=⟨w3.heap.size,0,none⟩) (by show w3.heap.size<_;omega)).trans low9)
           ((hX.cell (p:=⟨w.heap.size,0,none⟩) (by show w.heap.size<_;omega)).trans bx9) ((hX.block z (by omega)).trans hz9) ((hX.cell (p:=⟨w7.heap.size+3,0,none⟩) (by show w7.heap.size+3<_;omega)).trans t69) (hmb9.below hX)
           (HS.out.below (hBw9.trans (hX.mono (by omega)))) (λκ h=>zn.Q9 h))
         have HFI2:=qe fi;have HFB4:=qe hfb;have HB9:=qe hBw9;have HBX9:=qe bx9;have HZ9:=qe hz9;clear fi hfb hBw9 hz9 low9 t69 hmb9 hp;go_wp2_with fail;refine HFI2.out.mono ?_;intro e w10 hp;rcases uF (Inv:=λ_ X=>Below w9.heap.size w9 X) hp with⟨k,hfb,hk,rfl,vZ⟩|⟨hfb,_,rfl,vZ⟩
         ·have hres:zn.zS qf l=some ((k:Int),18):=by unfold zn.zS;rw[HFB1.out];simp only[HFB2.out];rw[if_neg H0.out,if_neg (by rw[<- Ja.out,<- HN.out];exact HN0.out),<- Ja.out];simp only[HFB3.out,HFB4.out,hfb]
          have zK:=qe hres;clear hp hfb hres;go_wp2_with fail;exact⟨rfl,(by rw[zK.out];rfl),HB9.out.trans (vZ.mono (by omega))⟩
         ·have hs10:w9.heap.size<=w10.heap.size:=vZ.size;have hBw10:=HB9.out.trans (vZ.mono (by omega));have bx10:=(vZ.cell (p:=⟨w.heap.size,0,none⟩) (by show w.heap.size<_;omega)).trans HBX9.out;have hz10:=(hBw10.block z hzl).trans HZ.out;have z10:w10.cell? ⟨z,1,none⟩=some (.slice a l.length cap):=by rw[qg hz10];rfl
          have si:=HSI.out w10 (λX hX=>ql.below HR.out (hBw10.trans (hX.mono (by omega))))
           (λk hk X hX=>rules6_any k l[k] (HOK.out _ (Ht hk)).2 w.heap.size z sb base qf (zn.Qu l) (zn.qJ l) (.slice a l.length cap) tv X
            ((hX.cell (p:=⟨w.heap.size,0,none⟩) (by show w.heap.size<_;omega)).trans bx10) ((hX.block z (by omega)).trans hz10)
            (HS.out.below (hBw10.trans (hX.mono (by omega)))) (λκ h=>zn.Q9 h) (zn.rowsS_some (zn.mem_domS.2 ⟨_,Ht hk,rfl⟩)))
          have HSI2:=qe si;have HFB5:=qe hfb;have yt:=qe hBw10;clear si hfb hBw10 hz10 hp z9 bx9;go_wp2_with fail;refine HSI2.out.mono ?_;intro e w11 hp;rcases uF (Inv:=λ_ X=>Below w10.heap.size w10 X) hp with⟨k,hfb,hk,rfl,ZQ⟩|⟨hfb,_,rfl,ZQ⟩
          ·have hres:zn.zS qf l=some ((k:Int),21):=by unfold zn.zS;rw[HFB1.out];simp only[HFB2.out];rw[if_neg H0.out,if_neg (by rw[<- Ja.out,<- HN.out];exact HN0.out),<- Ja.out];simp only[HFB3.out,HFB4.out,HFB5.out,hfb]
           have zK:=qe hres;clear hp hfb hres;go_wp2_with fail;exact⟨rfl,(by rw[zK.out];rfl),yt.out.trans (ZQ.mono (by omega))⟩
          ·have hres:zn.zS qf l=none:=by unfold zn.zS;rw[HFB1.out];simp only[HFB2.out];rw[if_neg H0.out,if_neg (by rw[<- Ja.out,<- HN.out];exact HN0.out),<- Ja.out];simp only[HFB3.out,HFB4.out,HFB5.out,hfb]
           have zK:=qe hres;clear hp hfb hres;go_wp2_with fail
           go_end0
           exact⟨(by rw[zK.out];rfl),yt.out.trans (ZQ.mono (by omega))⟩
end Go.Proofs.YtpcmilhjpmlbpaaGreatDoor
