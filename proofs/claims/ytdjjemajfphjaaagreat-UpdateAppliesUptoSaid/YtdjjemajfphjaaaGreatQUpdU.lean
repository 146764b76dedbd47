import Derived.Test.YtdjjemajfphjaaaGreatQUpdE
import Derived.Test.YtdjjemajfphjaaaGreatQDataS
import Derived.Test.YtdjjemajfphjaaaGreatQRefU
import Derived.Deep.CutBlock
set_option maxRecDepth 100000
set_option maxHeartbeats 4000000
namespace Go.Proofs.YtdjjemajfphjaaaGreat
open Go.RowKit Go.Shelf nm od
theorem like_size:(Tryz.prog.info? 72).map (·.size)=some 3:=by kernel_rfl
theorem like_ret {fn:Func}{p:Tmp}(hf:fn.results= #[.cell p 72]){R:Ending→World→Prop}{a:Act}{w:World}{g:Nat}{v0 v1 v2:Value}(hp:a.tmps.getD p undef= .pointer (some ⟨g,0,none⟩))
 (hd:a.defers= []) (hg:w.heap[g]? =some (.cells #[v0,v1,v2] 72 (0,0))) (hR:R (.returned (.agg #[v0,v1,v2])) w):bodyPost Tryz.prog fn R .ret a w:=
 bodyPost_ret_by (results_cell_row hf _ w g _ _ _ _ hp hg Tryz.underlying72 rfl like_size) hd hR
theorem xN (x:Rec)(w:World):Calls Tryz.prog 31 #[zB x] w fun e w'=>e= .returned (kC (zn.zf x))∧Below w.heap.size w w':=by
 obtain⟨w1,hw1⟩:∃X,X=w.alloc (.cells (recC x).toArray 51):=⟨_,rfl⟩
 obtain⟨w2,hw2⟩:∃X,X=w1.alloc (.cells #[.string ⟨#[]⟩,.int .i64 0,.string ⟨#[]⟩] 72):=⟨_,rfl⟩
 obtain⟨hB1,hs1,hx1⟩:=qM w w1 x hw1
 have hB2:Below w1.heap.size w1 w2:=by rw[hw2];exact(Below.refl _ w1).alloc (Nat.le_refl _) _
 have hs2:w2.heap.size=w1.heap.size+1:=by rw[hw2,World.size_alloc]
 have hl2:w2.heap[w1.heap.size]? =some (.cells #[.string ⟨#[]⟩,.int .i64 0,.string ⟨#[]⟩] 72 (0,0)):=by rw[hw2];exact qo rfl
 obtain⟨bx,hbx⟩:∃b,b=w.heap.size:=⟨_,rfl⟩
 obtain⟨bl,hbl⟩:∃b,b=w1.heap.size:=⟨_,rfl⟩
 have hx2:=hx1.keep (hB2.block w.heap.size (by omega))
 rw[← hbx]at hx2
 rw[← hbl]at hl2
 have hbb:bx<w2.heap.size∧bl<w2.heap.size:=by omega
 obtain⟨y0,y1,y2,y3,y4⟩:=hx2
 have k0:=qh (show w2.cell? ⟨bx,0,none⟩=some (.string x.owner) by simpa using y0)
 have k1:=qh (show w2.cell? ⟨bx,1,none⟩=some (.int .i64 x.typ) by simpa using y1)
 have k4:=qh (show w2.cell? ⟨bx,4,none⟩=some (.string x.data) by simpa using y4)
 have hBL:∀X:World,Below w2.heap.size w2 X→X.heap[bl]? =some (.cells #[.string ⟨#[]⟩,.int .i64 0,.string ⟨#[]⟩] 72 (0,0)):=fun X hX=>(hX.block bl hbb.2).trans hl2
 have hBLc:∀X:World,Below w2.heap.size w2 X→X.cell? ⟨bl,0,none⟩=some (.string ⟨#[]⟩)∧X.cell? ⟨bl,1,none⟩=some (.int .i64 0)∧X.cell? ⟨bl,2,none⟩=some (.string ⟨#[]⟩)∧X.frozen? ⟨bl,0,none⟩=false∧X.frozen? ⟨bl,1,none⟩=false∧X.frozen? ⟨bl,2,none⟩=false:=fun X hX=>by
  have h2:=hBL X hX
  refine⟨?_,?_,?_,qE h2 _,qE h2 _,qE h2 _⟩ <;> (rw[qg h2];rfl)
 have e1:w.heap.size+1=bl:=by omega
 obtain⟨lo,hlo⟩:∃lo,lo=qm x.owner:=⟨_,rfl⟩
 obtain⟨fd,hfd⟩:∃fd,fd=dt.zY x.typ x.data:=⟨_,rfl⟩
 have CF:Hid (∀p,Calls Tryz.prog 65 #[.string x.owner] (gw w2 p) fun e w''=>e= .returned (.string lo)∧∃p',w''=gw w2 p'):=Lib.hid fun p=>by rw[hlo];exact qL (je x.owner _)
 have CD:Hid (∀p,Calls Tryz.prog 73 #[.int .i64 x.typ,.string x.data] (gw w2 p) fun e w''=>e= .returned (.string fd)∧∃p',w''=gw w2 p'):=Lib.hid fun p=>by rw[hfd];exact qL (U8 x.typ x.data _)
 have hres:zn.zf x=(lo,x.typ,fd):=by rw[hlo,hfd];rfl
 rw[hres]
 have HW1:=Lib.hid hw1;have HW2:=Lib.hid hw2;have HBX:=Lib.hid hbx;have E1:=Lib.hid e1;have HL2:=Lib.hid hl2;have HBB:=Lib.hid hbb;have HB:=Lib.hid (hB1.trans (hB2.mono hB1.size));have HLE:=Lib.hid (show w.heap.size≤bl by omega)
 have HBL:=Lib.hid hBL;have HBLC:=Lib.hid hBLc
 clear hw1 hw2 hB1 hs1 hx1 hB2 hs2 hl2 hbx hbl hbb hBL hBLc e1 y0 y1 y2 y3 y4 hlo hfd hres
 go_enter Tryz.func31,Tryz.ntmps31
 go_upto_region 1 with fail
 rw[← HW1.out,← HW2.out,E1.out,← HBX.out]
 refine ze (C:=fun W=>∃p,W=gw w2 p) 11 (by kernel_rfl) (by kernel_rfl) (uL w2) ?_
 simp only[List.take_succ_cons,List.take_zero,List.drop_succ_cons,List.drop_zero]
 repeat (with_reducible refine wpQuiet_step (fun K hK=>?_);go_simp;first | (with_reducible refine hK _ ?_;clear hK K) | (apply Exists.intro;refine⟨fun _=>?_,hK _ ?_⟩;(first | (go_at_call 65;with_reducible exact CF.out _) | (go_at_call 73;with_reducible exact CD.out _));clear hK K))
 with_reducible refine wpQuiet_nil ?_
 intro W hW
 have hbN:Below w2.heap.size w2 W:=by obtain⟨p,rfl⟩:=hW;exact qp _ _
 obtain⟨z0,z1,z2,z3,z4,z5⟩:=HBLC.out _ hbN
 have hfin:=(qB ((qB ((qB (HBL.out _ hbN) 0 (.string lo)).trans rfl) 1 (.int .i64 x.typ)).trans rfl) 2 (.string fd)).trans rfl
 have hbel:=((((HB.out.trans (hbN.mono HB.out.size)).setCell (p:=⟨bl,0,none⟩) HLE.out (.string lo)).setCell (p:=⟨bl,1,none⟩) HLE.out (.int .i64 x.typ)).setCell (p:=⟨bl,2,none⟩) HLE.out (.string fd))
 have JJ:=Lib.hid hfin;have HBEL:=Lib.hid hbel
 clear hfin hbel hW k0 k1 k4
 go_wp2_with fail
 exact like_ret rfl rfl rfl JJ.out ⟨rfl,HBEL.out⟩
end Go.Proofs.YtdjjemajfphjaaaGreat
namespace Go.Proofs.YtdjjemajfphjaaaGreat
open Go.RowKit Go.Shelf nm od
theorem uM (args:Array Value)(w:World):(callFunc 142 args).run Tryz.prog w= .ok (.enter 142 args) w:=by kernel_rfl
def yf (n:ByteArray)(x:Rec):Bool:=decide (qm x.owner=n)
theorem Xe (n:ByteArray)(w:World):Calls Tryz.prog 83 #[.string n] w fun e w'=>
 e= .returned (.func (.func 142) #[] #[.pointer (some ⟨w.heap.size,0,none⟩)])∧Below w.heap.size w w'∧w'.cell? ⟨w.heap.size,0,none⟩=some (.string (qm n))∧w.heap.size<w'.heap.size:=by
 have hmf:∀(fn:Fn) (first cap:Array Value) (w:World),(Instr.makeFunc fn first cap).run Tryz.prog w= .ok (.func fn first cap) w:=fun _ _ _ _=>rfl
 obtain⟨b,hb⟩:∃b,b=w.heap.size:=⟨_,rfl⟩
 obtain⟨w1,hw1⟩:∃X,X=w.alloc (.cells #[.string n] 9):=⟨_,rfl⟩
 have hB1:Below w.heap.size w w1:=by rw[hw1];exact(Below.refl _ w).alloc (Nat.le_refl _) _
 have hs1:w1.heap.size=w.heap.size+1:=by rw[hw1,World.size_alloc]
 have hh1:w1.heap[b]? =some (.cells #[.string n] 9 (0,0)):=by rw[hw1];exact qo hb
 have hc1:w1.cell? ⟨b,0,none⟩=some (.string n):=by rw[qg hh1];rfl
 obtain⟨fo,hfo⟩:∃fo,fo=qm n:=⟨_,rfl⟩
 have HF:=Lib.hid hfo
 rw[← hb,← hfo]
 have HW1:=Lib.hid hw1;have HB1:=Lib.hid hB1;have HS:=Lib.hid hs1;have HH:=Lib.hid hh1;have HB:=Lib.hid hb
 clear hw1 hB1 hs1 hh1 hb hfo
 go_enter Tryz.func83,Tryz.ntmps83
 go_upto_region 1 with fail
 rw[← HW1.out,← HB.out]
 go_wp2_with fail
 refine(je n w1).mono ?_
 rintro e w2 ⟨rfl,hB2⟩
 rw[← HF.out]
 have hbl:b<w1.heap.size:=by have:=HB.out;have:=HS.out;omega
 have hh2:=(hB2.block b hbl).trans HH.out
 have c2:w2.cell? ⟨b,0,none⟩=some (.string n):=by rw[qg hh2];rfl
 have f2:w2.frozen? ⟨b,0,none⟩=false:=qE hh2 0
 have HEND:=Lib.hid (show(w2.setCell ⟨b,0,none⟩ (.string fo)).cell? ⟨b,0,none⟩=some (.string fo) from World.cell?_setCell_same' _ _ _ (by rw[c2];rfl))
 have HBE:=Lib.hid ((HB1.out.trans (hB2.mono HB1.out.size)).setCell (p:=⟨b,0,none⟩) (by rw[HB.out];exact Nat.le_refl _) (.string fo))
 have HLT:=Lib.hid (show b<w2.heap.size from Nat.lt_of_lt_of_le hbl hB2.size)
 clear hB2 hbl hh2 hc1
 go_wp2_with fail
 go_ret
 exact⟨rfl,by rw[HB.out]at *;exact HBE.out,HEND.out,by simpa using HLT.out⟩
theorem ZY (x:Rec)(b:Nat)(n:ByteArray)(w:World)(hb:b<w.heap.size)(hc:w.cell? ⟨b,0,none⟩=some (.string n)):
 Calls Tryz.prog 142 #[zB x,.pointer (some ⟨b,0,none⟩)] w fun e w'=>e= .returned (.bool (yf n x))∧Below w.heap.size w w':=by
 obtain⟨wa,hwa⟩:∃W,W=w.alloc (.cells (recC x).toArray 51):=⟨_,rfl⟩
 obtain⟨hBa,hsa,hxa⟩:=qM w wa x hwa
 obtain⟨x0,x1,x2,x3,x4⟩:=hxa
 have c1:wa.cell? ⟨b,0,none⟩=some (.string n):=(hBa.cell (p:=⟨b,0,none⟩) hb).trans hc
 obtain⟨lo,hlo⟩:∃lo,lo=qm x.owner:=⟨_,rfl⟩
 have CF:Hid (∀p,Calls Tryz.prog 65 #[.string x.owner] (gw wa p) fun e w''=>e= .returned (.string lo)∧∃p',w''=gw wa p'):=Lib.hid fun p=>by rw[hlo];exact qL (je x.owner _)
 obtain⟨q,hq⟩:∃q,q=(lo.toList == n.toList):=⟨_,rfl⟩
 have hres:yf n x=q:=by
  unfold yf
  rw[hq,← hlo]
  by_cases h:lo=n
  ·rw[decide_eq_true h,str_eq.2 h]
  ·rw[decide_eq_false h,str_ne h]
 have fq:(lo.toList == n.toList)=q:=hq.symm
 rw[hres]
 have k1:=qh c1;have k0:=qh x0
 have HWA:=Lib.hid hwa;have HBA:=Lib.hid hBa
 clear hwa hBa hsa hlo hq hres x0 x1 x2 x3 x4 c1 hc
 go_enter Tryz.func142,Tryz.ntmps142
 go_upto_region 1 with fail
 rw[← HWA.out]
 refine qj (by kernel_rfl) (by kernel_rfl) ?_
 repeat (with_reducible refine wpQuiet_step (fun K hK=>?_);go_simp;(try simp only[undef]);first | (with_reducible refine hK _ ?_;clear hK K) | (apply Exists.intro;refine⟨fun _=>?_,hK _ ?_⟩;(first | (go_at_call 65;with_reducible exact CF.out _));clear hK K) | (with_reducible refine⟨fun _ h=>(by cases h),?_⟩;with_reducible refine hK _ ?_;clear hK K))
 refine wpQuiet_nil ?_
 (try simp only[show Value.tuple #[]=undef from rfl])
 intro W hW
 have hBW:Below wa.heap.size wa W:=by obtain⟨g,rfl⟩:=hW;exact qp _ g
 clear hW
 go_wp2_with fail
 go_ret
 exact⟨rfl,HBA.out.trans (hBW.mono HBA.out.size)⟩
def zR (w:World)(base st:Nat)(qf:ByteArray)(l:List Rec):Prop:=
 ∃v,w.heap[st]? =some (.cells #[.string qf,v] 80 (0,0))∧base≤st∧w.ownsRow base 51 5 v l.length (qG l)
theorem zR.lt {w:World}{base st:Nat}{qf:ByteArray}{l:List Rec}(h:zR w base st qf l):st<w.heap.size:=by obtain⟨_,h,_⟩:=h;exact qw h
theorem zR.below {w w':World}{base st:Nat}{qf:ByteArray}{l:List Rec}(h:zR w base st qf l)(hb:Below w.heap.size w w'):zR w' base st qf l:=by
 obtain⟨v,h1,h2,h3⟩:=h
 exact⟨v,(hb.block st (qw h1)).trans h1,h2,ownsRow_below h3 hb⟩
theorem any_any_ (g:FuncId)(lb:Array Value)(heg:∀args w,(callFunc g args).run Tryz.prog w= .ok (.enter g args) w)(p:Rec→Bool)(base st:Nat)(qf:ByteArray)(l:List Rec)(hl:l.length≤1000000000)(w:World)(hs:zR w base st qf l)
 (hcall:∀r,r∈l→∀X,Below w.heap.size w X→Calls Tryz.prog g (#[zB r] ++ lb) X fun e X'=>e= .returned (.bool (p r))∧Below X.heap.size X X'):
 Calls Tryz.prog 86 #[.pointer (some ⟨st,0,none⟩),.func (.func g) #[] lb] w fun e w'=>e= .returned (.bool (l.any p))∧Below w.heap.size w w':=by
 obtain⟨v,hst,hbs,hown⟩:=hs
 obtain⟨va,vc,rfl,-⟩:=qC hown
 have c1:w.cell? ⟨st,1,none⟩=some (.slice va l.length vc):=by rw[qg hst];rfl
 have HV:=Lib.hid (qO hown)
 obtain⟨sb,hsb⟩:∃sb,sb=l.any p:=⟨_,rfl⟩
 rw[← hsb]
 have HSB:=Lib.hid hsb;have Qd:=Lib.hid hcall
 clear hst hbs hown hsb hcall
 go_enter Tryz.func86,Tryz.ntmps86
 go_wp2_with fail
 clear c1
 go_loopw [12] (fun kv wr=>∃k:Nat,k≤l.length∧kv= .int .i64 (k:Int)∧Hid ((∀j (hj:j<l.length),j<k→p l[j]=false)∧Below w.heap.size w wr)) (fun kv _=>l.length-(intOf kv).toNat)
 case atStart=>exact⟨0,Nat.zero_le _,rfl,Lib.hid ⟨fun j hj h=>absurd h (Nat.not_lt_zero _),Below.refl _ _⟩⟩
 case round=>
  obtain⟨k,hk,rfl,HR⟩:=hrel
  obtain⟨w3,hw3⟩:∃X:World,X=wr:=⟨_,rfl⟩
  subst hw3
  by_cases hlt:k<l.length
  ·have hki:(k:Int)<(l.length:Int):=by omega
   obtain⟨_,_,hv,_,hr0⟩:=HV.out.below HR.out.2
   simp only[Value.slice.injEq,true_and]at hv
   obtain⟨rfl,rfl⟩:=hv
   obtain⟨bb,off,rfl,hbl,c0,c1,c2,c3,c4⟩:=hr0 k hlt
   obtain⟨x,hx⟩:∃x,x=l[k]:=⟨_,rfl⟩
   rw[← hx]at c0 c1 c2 c3 c4
   obtain⟨wa,hwa⟩:∃W,W=w3.alloc (.cells (recC x).toArray 51):=⟨_,rfl⟩
   obtain⟨hBa,hsa,hxa⟩:=qM w3 wa x hwa
   obtain⟨x0,x1,x2,x3,x4⟩:=hxa
   have HWA:=Lib.hid hwa;have HX:=Lib.hid hx;have HLT:=Lib.hid hlt
   have HB4:=Lib.hid (HR.out.2.trans (hBa.mono HR.out.2.size))
   have HC:=Lib.hid (Qd.out x (by rw[hx];exact List.getElem_mem _) wa HB4.out)
   clear hwa hx hBa hsa hr0 hbl
   go_upto_region 4 with fail
   rw[← HWA.out]
   clear c0 c1 c2 c3 c4
   go_wp2_with fail
   refine HC.out.mono ?_
   rintro e w5 ⟨rfl,hB5⟩
   have HB5:=Lib.hid (HB4.out.trans (hB5.mono HB4.out.size))
   obtain⟨ab,hab⟩:∃ab,ab=p x:=⟨_,rfl⟩
   rw[← hab]
   have HAB:=Lib.hid hab
   clear hB5 hab x0 x1 x2 x3 x4
   cases ab
   ·go_wp2_with fail
    go_roundw
    case rel=>
     refine⟨k+1,by omega,by go_num,Lib.hid ⟨fun j hj h=>?_,HB5.out⟩⟩
     rcases Nat.lt_or_ge j k with h2 | h2
     ·exact HR.out.1 j hj h2
     ·obtain rfl:j=k:=by omega
      exact(congrArg p HX.out.symm).trans HAB.out.symm
    case measure=>simp[intOf];omega
   ·have HE:=Lib.hid (show sb=true by
     rw[HSB.out,List.any_eq_true]
     exact⟨_,List.getElem_mem HLT.out,(congrArg p HX.out.symm).trans HAB.out.symm⟩)
    go_wp2_with fail
    go_ret
    exact⟨qA HE.out.symm,HB5.out⟩
  ·obtain rfl:k=l.length:=by omega
   have HE:=Lib.hid (show sb=false by
    rw[HSB.out,List.any_eq_false]
    intro x hx
    obtain⟨j,hj,rfl⟩:=List.getElem_of_mem hx
    rw[HR.out.1 j hj hj]
    simp)
   clear hlt
   go_wp2_with fail
   go_ret
   exact⟨qA HE.out.symm,HR.out.2⟩
theorem keep_snoc {p:Rec→Bool}{l:List Rec}{k:Nat}(hk:k<l.length):(l.take (k+1)).filter (fun x=>!p x)=(l.take k).filter (fun x=>!p x) ++ if p l[k]=true then [] else [l[k]]:=by
 rw[List.take_succ_eq_append_getElem hk,List.filter_append]
 congr 1
 by_cases h:p l[k]=true
 ·rw[if_pos h,List.filter_cons_of_neg (by simp[h]),List.filter_nil]
 ·rw[if_neg h,List.filter_cons_of_pos (by simp[h]),List.filter_nil]
theorem jb {w:World}{base st n:Nat}{qf:ByteArray}{v u:Value}{xs:List Value}(h:w.ownsRow base 51 5 v n xs)(hs:w.heap[st]? =some (.cells #[.string qf,u] 80 (0,0))):v.ownBlock≠some st:=fun e=>by
 obtain⟨c',fz,hc⟩:=Lib.ownsRow_kind h st e
 rw[hs]at hc
 simp at hc
theorem xD (g:FuncId)(lb:Array Value)(heg:∀args w,(callFunc g args).run Tryz.prog w= .ok (.enter g args) w)(p:Rec→Bool)(base st:Nat)(qf:ByteArray)(l:List Rec)(hl:l.length≤1000000000)(w:World)(hs:zR w base st qf l)
 (hcall:∀r,r∈l→∀X,Below w.heap.size w X→Calls Tryz.prog g (#[zB r] ++ lb) X fun e X'=>e= .returned (.bool (p r))∧Below X.heap.size X X'):
 Calls Tryz.prog 89 #[.pointer (some ⟨st,0,none⟩),.func (.func g) #[] lb] w fun e w'=>e= .returned (.tuple #[])∧(∃v,w'.heap[st]? =some (.cells #[.string qf,v] 80 (0,0))∧w'.ownsRow w.heap.size 51 5 v (l.filter fun x=>!p x).length (qG (l.filter fun x=>!p x)))∧w.grownBy w' (some st):=by
 obtain⟨v,hst,hbs,hown⟩:=hs
 obtain⟨va,vc,rfl,-⟩:=qC hown
 have c1:w.cell? ⟨st,1,none⟩=some (.slice va l.length vc):=by rw[qg hst];rfl
 have HV:=Lib.hid (qO hown)
 have Qd:=Lib.hid hcall;have HST:=Lib.hid hst;
 clear hst hbs hown hcall
 obtain⟨kX,uz,uy,jd,jc⟩:=info_parts jM
 have kZ:=Lib.hid uz;have kY:=Lib.hid uy;have yK:=Lib.hid jd;have yJ:=Lib.hid jc
 clear uz uy jd jc
 go_enter Tryz.func89,Tryz.ntmps89
 go_wp2_with fail
 clear c1
 go_loopw [12,4] (fun kv ov wr=>∃k:Nat,k≤l.length∧kv= .int .i64 (k:Int)∧Hid (wr.ownsRow w.heap.size 51 5 ov ((l.take k).filter fun x=>!p x).length (qG ((l.take k).filter fun x=>!p x))∧Below w.heap.size w wr)) (fun kv _ _=>l.length-(intOf kv).toNat)
 case atStart=>exact⟨0,Nat.zero_le _,rfl,Lib.hid ⟨World.ownsRow_nil _ _ _ _,Below.refl _ _⟩⟩
 case round=>
  obtain⟨k,hk,rfl,HR⟩:=hrel
  obtain⟨w3,hw3⟩:∃X:World,X=wr:=⟨_,rfl⟩
  subst hw3
  obtain⟨K,hK⟩:∃K,K=(l.take k).filter fun x=>!p x:=⟨_,rfl⟩
  have yU:=Lib.hid HR.out.1
  have hKl:K.length≤l.length:=by rw[hK];exact Nat.le_trans (List.length_filter_le _ _) (by rw[List.length_take];omega)
  rw[← hK]at yU
  have HK:=Lib.hid hK
  clear hK
  obtain⟨oa,oc,hov,-⟩:=qC yU.out
  subst hov
  by_cases hlt:k<l.length
  ·have hki:(k:Int)<(l.length:Int):=by omega
   obtain⟨_,_,hv,_,hr0⟩:=HV.out.below HR.out.2
   simp only[Value.slice.injEq,true_and]at hv
   obtain⟨rfl,rfl⟩:=hv
   obtain⟨bb,off,rfl,hbl,c0,c1,c2,c3,c4⟩:=hr0 k hlt
   obtain⟨x,hx⟩:∃x,x=l[k]:=⟨_,rfl⟩
   rw[← hx]at c0 c1 c2 c3 c4
   obtain⟨wa,hwa⟩:∃W,W=w3.alloc (.cells (recC x).toArray 51):=⟨_,rfl⟩
   obtain⟨hBa,hsa,hxa⟩:=qM w3 wa x hwa
   obtain⟨bx,hbx⟩:∃b,b=w3.heap.size:=⟨_,rfl⟩
   rw[← hbx]at hxa
   have zU:bx<wa.heap.size:=by omega
   obtain⟨x0,x1,x2,x3,x4⟩:=id hxa
   have HWA:=Lib.hid hwa;have HX:=Lib.hid hx;have HLT:=Lib.hid hlt;have HXA:=Lib.hid hxa;have yH:=Lib.hid zU;have HBX:=Lib.hid hbx
   have HB4:=Lib.hid (HR.out.2.trans (hBa.mono HR.out.2.size))
   have YE:=Lib.hid (ownsRow_below yU.out hBa)
   have HC:=Lib.hid (Qd.out x (by rw[hx];exact List.getElem_mem _) wa HB4.out)
   have HSN:=Lib.hid (show(l.take (k+1)).filter (fun x=>!p x)=K ++ if p x=true then [] else [x] by rw[keep_snoc hlt,HK.out,← hx])
   clear hwa hx hBa hsa hr0 hbl hxa zU hbx
   go_upto_region 4 with fail
   rw[← HWA.out,← HBX.out]
   clear c0 c1 c2 c3 c4
   go_wp2_with fail
   refine HC.out.mono ?_
   rintro e w5 ⟨rfl,hB5⟩
   obtain⟨y0,y1,y2,y3,y4⟩:=HXA.out.keep (hB5.block bx yH.out)
   have HROWb:=Lib.hid (ownsRow_below YE.out hB5)
   have HB5:=Lib.hid (HB4.out.trans (hB5.mono HB4.out.size))
   obtain⟨ab,hab⟩:∃ab,ab=p x:=⟨_,rfl⟩
   rw[← hab]
   have HAB:=Lib.hid hab
   clear hB5 hab x0 x1 x2 x3 x4
   cases ab
   ·have HE:=Lib.hid (show(l.take (k+1)).filter (fun x=>!p x)=K ++ [x] by rw[HSN.out,← HAB.out];rfl)
    have yw:=Lib.hid (HB5.out.alloc HB5.out.size (.cells (recC x).toArray 51))
    have zy:=Lib.hid (qi HROWb.out fun b hb=>Below.heap_alloc w5 (.cells (recC x).toArray 51) b (HROWb.out.lt b hb).2)
    have yu:=Lib.hid (show K.length+1≤maxLen from by unfold maxLen;omega)
    have yt:=Lib.hid (show(K.length+1)*56≤140737488355328 from by omega)
    have zx:=Lib.hid (show w.heap.size≤(w5.alloc (.cells (recC x).toArray 51)).heap.size from by have:=HB5.out.size;simp;omega)
    have qX:=Lib.hid (yA w5 (recC x) 51)
    go_wp2_with (at_builtin;refine qF _ rfl _ _ 22 rfl w.heap.size 51 kX (.agg #[.string ⟨#[]⟩,.int .i64 0,.int .i64 0,.int .i64 0,.string ⟨#[]⟩]) 5 56 Tryz.underlying22 kZ.out kY.out yK.out yJ.out rfl (by decide) _ _ _ rfl zy.out ⟨w5.heap.size,0,none⟩ 1 1 (recC x) rfl rfl qX.out (by simp[Value.oneCell']) yu.out yt.out zx.out ?_)
    intro v' w10 qI q9 zi
    have zw:=Lib.hid (yw.out.grown q9 zx.out (fun j hj=>(zy.out.lt j hj).1))
    have qQ:=Lib.hid qI;have vg:=Lib.hid q9;have jE:=Lib.hid zi
    clear qI q9 zi yw zy yu yt zx qX
    clear y0 y1 y2 y3 y4
    go_wp2_with fail
    go_roundw
    case rel=>
     refine⟨k+1,by omega,by go_num,Lib.hid ⟨?_,zw.out⟩⟩
     rw[HE.out,List.length_append,List.length_singleton,zq]
     exact qQ.out
    case measure=>simp[intOf];omega
   ·have HE:=Lib.hid (show(l.take (k+1)).filter (fun x=>!p x)=K by rw[HSN.out,← HAB.out];simp)
    go_wp2_with fail
    go_roundw
    case rel=>exact⟨k+1,by omega,by go_num,Lib.hid ⟨by rw[HE.out];exact HROWb.out,HB5.out⟩⟩
    case measure=>simp[intOf];omega
  ·obtain rfl:k=l.length:=by omega
   have HE:=Lib.hid (show K=l.filter (fun x=>!p x) by rw[HK.out,List.take_length])
   have hh:=(HR.out.2.block st (qw HST.out)).trans HST.out
   have d1:w3.cell? ⟨st,1,none⟩=some (.slice va l.length vc):=by rw[qg hh];rfl
   have d2:w3.frozen? ⟨st,1,none⟩=false:=qE hh 1
   have HH:=Lib.hid hh
   have HNS:=Lib.hid (jb yU.out hh)
   clear hlt hh
   go_wp2_with fail
   go_end0
   refine⟨rfl,⟨.slice oa K.length oc,(qB HH.out 1 _).trans rfl,?_⟩,?_⟩
   ·rw[← HE.out]
    exact qi yU.out fun b hb=>Below.heap_setCell _ _ _ _ (by simp only;intro e;exact HNS.out (by rw[hb,e]))
   ·have h2:=HR.out.2
    exact⟨h2.os,h2.tape,h2.output,by simpa[World.setCell] using h2.size,fun k hk hne=>(Below.heap_setCell _ _ _ _ (by simp only;intro e;exact hne (by rw[e]))).trans (h2.block k hk)⟩
end Go.Proofs.YtdjjemajfphjaaaGreat
namespace Go.Proofs.YtdjjemajfphjaaaGreat
open Go.RowKit Go.Shelf nm od
namespace up
def ja (t:Int):Bool:=decide (t=46) || decide (t=47)
end up
def uE (w:World)(b4 bn:Nat)(n:ByteArray):Prop:=
 w.cell? ⟨b4,0,none⟩=some (.func (.func 142) #[] #[.pointer (some ⟨bn,0,none⟩)])∧w.cell? ⟨bn,0,none⟩=some (.string n)∧b4<w.heap.size∧bn<w.heap.size
theorem uE.below {w w':World}{b4 bn:Nat}{n:ByteArray}(h:uE w b4 bn n)(hb:Below w.heap.size w w'):uE w' b4 bn n:=
 ⟨(hb.cell (p:=⟨b4,0,none⟩) h.2.2.1).trans h.1,(hb.cell (p:=⟨bn,0,none⟩) h.2.2.2).trans h.2.1,Nat.lt_of_lt_of_le h.2.2.1 hb.size,Nat.lt_of_lt_of_le h.2.2.2 hb.size⟩
theorem uE.keep {w w':World}{b4 bn st:Nat}{n:ByteArray}(h:uE w b4 bn n)(hg:w.grownBy w' (some st))(h1:b4≠st)(h2:bn≠st):uE w' b4 bn n:=
 ⟨(World.cell?_of_block (hg.block b4 h.2.2.1 (by simpa using h1))).trans h.1,(World.cell?_of_block (hg.block bn h.2.2.2 (by simpa using h2))).trans h.2.1,Nat.lt_of_lt_of_le h.2.2.1 hg.size,Nat.lt_of_lt_of_le h.2.2.2 hg.size⟩
theorem beside_any (t:Int)(w:World):Calls Tryz.prog 88 #[.int .i64 t] w fun e w'=>e= .returned (.bool (up.ja t))∧w=w':=by
 by_cases h1:t=46
 ·have d1:(t == 46)=true:=by rw[beq_iff_eq];exact h1
  have HR:=Lib.hid (show up.ja t=true by simp[up.ja,h1])
  clear h1
  go_enter Tryz.func88,Tryz.ntmps88
  go_wp2_with fail
  go_ret
  exact⟨qA HR.out.symm,rfl⟩
 ·have d1:(t == 46)=false:=by rw[beq_eq_false_iff_ne];exact h1
  by_cases h2:t=47
  ·have d2:(t == 47)=true:=by rw[beq_iff_eq];exact h2
   have HR:=Lib.hid (show up.ja t=true by simp[up.ja,h2])
   clear h1 h2
   go_enter Tryz.func88,Tryz.ntmps88
   go_wp2_with fail
   go_ret
   exact⟨qA HR.out.symm,rfl⟩
  ·have d2:(t == 47)=false:=by rw[beq_eq_false_iff_ne];exact h2
   have HR:=Lib.hid (show up.ja t=false by simp[up.ja,h1,h2])
   clear h1 h2
   go_enter Tryz.func88,Tryz.ntmps88
   go_wp2_with fail
   go_ret
   exact⟨qA HR.out.symm,rfl⟩
theorem add1_any (x:Rec)(b4 bn:Nat)(n:ByteArray)(w:World)(hh:uE w b4 bn n):
 Calls Tryz.prog 87 #[zB x,.pointer (some ⟨b4,0,none⟩)] w fun e w'=>e= .returned (.bool (yf n x && decide (x.typ≠5) && !up.ja x.typ))∧Below w.heap.size w w':=by
 obtain⟨wa,hwa⟩:∃W,W=w.alloc (.cells (recC x).toArray 51):=⟨_,rfl⟩
 obtain⟨hBa,hsa,hxa⟩:=qM w wa x hwa
 obtain⟨bx,hbx⟩:∃b,b=w.heap.size:=⟨_,rfl⟩
 rw[← hbx]at hxa
 have zU:bx<wa.heap.size:=by omega
 obtain⟨x0,x1,x2,x3,x4⟩:=id hxa
 have HWA:=Lib.hid hwa;have HBX:=Lib.hid hbx;have yH:=Lib.hid zU;have HXA:=Lib.hid hxa;have HBA:=Lib.hid hBa
 have HH:=Lib.hid (hh.below hBa)
 obtain⟨c4,cn,l4,ln⟩:=id HH.out
 have hcf:=uM
 have CA:=Lib.hid (ZY x bn n wa ln cn)
 clear hwa hBa hsa hbx zU hxa hh cn l4 ln
 go_enter Tryz.func87,Tryz.ntmps87
 go_upto_region 1 with fail
 rw[← HWA.out,← HBX.out]
 go_wp2_with fail
 refine CA.out.mono ?_
 rintro e w2 ⟨rfl,hB2⟩
 obtain⟨y0,y1,y2,y3,y4⟩:=HXA.out.keep (hB2.block bx yH.out)
 have HB2:=Lib.hid (HBA.out.trans (hB2.mono HBA.out.size))
 clear hB2 x0 x1 x2 x3 x4 c4
 obtain⟨hb,hhb⟩:∃hb,hb=yf n x:=⟨_,rfl⟩
 rw[← hhb]
 have HHB:=Lib.hid hhb
 clear hhb
 cases hb
 ·have HR:=Lib.hid (show(yf n x && decide (x.typ≠5) && !up.ja x.typ)=false by rw[← HHB.out];rfl)
  go_wp2_with fail
  go_ret
  exact⟨qA HR.out.symm,HB2.out⟩
 ·by_cases h5:x.typ=5
  ·have d5:(x.typ != 5)=false:=by rw[bne_eq_false_iff_eq];exact h5
   have HR:=Lib.hid (show(yf n x && decide (x.typ≠5) && !up.ja x.typ)=false by rw[← HHB.out];simp[h5])
   clear h5
   go_wp2_with fail
   go_ret
   exact⟨qA HR.out.symm,HB2.out⟩
  ·have d5:(x.typ != 5)=true:=by rw[bne_iff_ne];exact h5
   obtain⟨bb,hbb⟩:∃bb,bb=up.ja x.typ:=⟨_,rfl⟩
   have HR:=Lib.hid (show(yf n x && decide (x.typ≠5) && !up.ja x.typ)= !bb by rw[hbb,← HHB.out];simp[h5])
   have HBB:=Lib.hid hbb
   clear h5 hbb
   go_wp2_with fail
   refine(beside_any _ _).mono ?_
   rintro e w3 ⟨rfl,rfl⟩
   rw[← HBB.out]
   go_wp2_with fail
   go_ret
   exact⟨qA HR.out.symm,HB2.out⟩
theorem add2_any (x:Rec)(b4 bn:Nat)(n:ByteArray)(w:World)(hh:uE w b4 bn n):
 Calls Tryz.prog 90 #[zB x,.pointer (some ⟨b4,0,none⟩)] w fun e w'=>e= .returned (.bool (yf n x && decide (x.typ=5)))∧Below w.heap.size w w':=by
 obtain⟨wa,hwa⟩:∃W,W=w.alloc (.cells (recC x).toArray 51):=⟨_,rfl⟩
 obtain⟨hBa,hsa,hxa⟩:=qM w wa x hwa
 obtain⟨bx,hbx⟩:∃b,b=w.heap.size:=⟨_,rfl⟩
 rw[← hbx]at hxa
 have zU:bx<wa.heap.size:=by omega
 obtain⟨x0,x1,x2,x3,x4⟩:=id hxa
 have HWA:=Lib.hid hwa;have HBX:=Lib.hid hbx;have yH:=Lib.hid zU;have HXA:=Lib.hid hxa;have HBA:=Lib.hid hBa
 have HH:=Lib.hid (hh.below hBa)
 obtain⟨c4,cn,l4,ln⟩:=id HH.out
 have hcf:=uM
 have CA:=Lib.hid (ZY x bn n wa ln cn)
 clear hwa hBa hsa hbx zU hxa hh cn l4 ln
 go_enter Tryz.func90,Tryz.ntmps90
 go_upto_region 1 with fail
 rw[← HWA.out,← HBX.out]
 go_wp2_with fail
 refine CA.out.mono ?_
 rintro e w2 ⟨rfl,hB2⟩
 obtain⟨y0,y1,y2,y3,y4⟩:=HXA.out.keep (hB2.block bx yH.out)
 have HB2:=Lib.hid (HBA.out.trans (hB2.mono HBA.out.size))
 clear hB2 x0 x1 x2 x3 x4 c4
 obtain⟨hb,hhb⟩:∃hb,hb=yf n x:=⟨_,rfl⟩
 rw[← hhb]
 have HHB:=Lib.hid hhb
 clear hhb
 cases hb
 ·have HR:=Lib.hid (show(yf n x && decide (x.typ=5))=false by rw[← HHB.out];rfl)
  go_wp2_with fail
  go_ret
  exact⟨qA HR.out.symm,HB2.out⟩
 ·by_cases h5:x.typ=5
  ·have d5:(x.typ == 5)=true:=by rw[beq_iff_eq];exact h5
   have HR:=Lib.hid (show(yf n x && decide (x.typ=5))=true by rw[← HHB.out];simp[h5])
   clear h5
   go_wp2_with fail
   go_ret
   exact⟨qA HR.out.symm,HB2.out⟩
  ·have d5:(x.typ == 5)=false:=by rw[beq_eq_false_iff_ne];exact h5
   have HR:=Lib.hid (show(yf n x && decide (x.typ=5))=false by rw[← HHB.out];simp[h5])
   clear h5
   go_wp2_with fail
   go_ret
   exact⟨qA HR.out.symm,HB2.out⟩
theorem add3_any (x:Rec)(b4 bn:Nat)(n:ByteArray)(w:World)(hh:uE w b4 bn n):
 Calls Tryz.prog 91 #[zB x,.pointer (some ⟨b4,0,none⟩)] w fun e w'=>e= .returned (.bool (yf n x && decide (x.typ=5)))∧Below w.heap.size w w':=by
 obtain⟨wa,hwa⟩:∃W,W=w.alloc (.cells (recC x).toArray 51):=⟨_,rfl⟩
 obtain⟨hBa,hsa,hxa⟩:=qM w wa x hwa
 obtain⟨bx,hbx⟩:∃b,b=w.heap.size:=⟨_,rfl⟩
 rw[← hbx]at hxa
 have zU:bx<wa.heap.size:=by omega
 obtain⟨x0,x1,x2,x3,x4⟩:=id hxa
 have HWA:=Lib.hid hwa;have HBX:=Lib.hid hbx;have yH:=Lib.hid zU;have HXA:=Lib.hid hxa;have HBA:=Lib.hid hBa
 have HH:=Lib.hid (hh.below hBa)
 obtain⟨c4,cn,l4,ln⟩:=id HH.out
 have hcf:=uM
 have CA:=Lib.hid (ZY x bn n wa ln cn)
 clear hwa hBa hsa hbx zU hxa hh cn l4 ln
 go_enter Tryz.func91,Tryz.ntmps91
 go_upto_region 1 with fail
 rw[← HWA.out,← HBX.out]
 go_wp2_with fail
 refine CA.out.mono ?_
 rintro e w2 ⟨rfl,hB2⟩
 obtain⟨y0,y1,y2,y3,y4⟩:=HXA.out.keep (hB2.block bx yH.out)
 have HB2:=Lib.hid (HBA.out.trans (hB2.mono HBA.out.size))
 clear hB2 x0 x1 x2 x3 x4 c4
 obtain⟨hb,hhb⟩:∃hb,hb=yf n x:=⟨_,rfl⟩
 rw[← hhb]
 have HHB:=Lib.hid hhb
 clear hhb
 cases hb
 ·have HR:=Lib.hid (show(yf n x && decide (x.typ=5))=false by rw[← HHB.out];rfl)
  go_wp2_with fail
  go_ret
  exact⟨qA HR.out.symm,HB2.out⟩
 ·by_cases h5:x.typ=5
  ·have d5:(x.typ == 5)=true:=by rw[beq_iff_eq];exact h5
   have HR:=Lib.hid (show(yf n x && decide (x.typ=5))=true by rw[← HHB.out];simp[h5])
   clear h5
   go_wp2_with fail
   go_ret
   exact⟨qA HR.out.symm,HB2.out⟩
  ·have d5:(x.typ == 5)=false:=by rw[beq_eq_false_iff_ne];exact h5
   have HR:=Lib.hid (show(yf n x && decide (x.typ=5))=false by rw[← HHB.out];simp[h5])
   clear h5
   go_wp2_with fail
   go_ret
   exact⟨qA HR.out.symm,HB2.out⟩
theorem like_if {α:Type}(g0 f0:ByteArray)(g1 f1:Int)(g2 f2:ByteArray)(A B:α):(if g0.toList=f0.toList then(if g1=f1 then(if g2.toList=f2.toList then A else B) else B) else B)=if(g0,g1,g2)=(f0,f1,f2) then A else B:=by
 have e:∀a b:ByteArray,a.toList=b.toList↔a=b:=fun a b=>by rw[← str_eq,beq_iff_eq]
 simp only[e,Prod.mk.injEq]
 by_cases h0:g0=f0 <;> by_cases h1:g1=f1 <;> by_cases h2:g2=f2 <;> simp[h0,h1,h2]
def uP (f:ByteArray×Int×ByteArray)(x:Rec):Bool:=decide (zn.zf x=f)
def Zu (w:World)(b:Nat)(f:ByteArray×Int×ByteArray):Prop:=
 w.cell? ⟨b,0,none⟩=some (.string f.1)∧w.cell? ⟨b,1,none⟩=some (.int .i64 f.2.1)∧w.cell? ⟨b,2,none⟩=some (.string f.2.2)∧b<w.heap.size
theorem Zu.below {w w':World}{b:Nat}{f:ByteArray×Int×ByteArray}(h:Zu w b f)(hb:Below w.heap.size w w'):Zu w' b f:=
 ⟨(hb.cell (p:=⟨b,0,none⟩) h.2.2.2).trans h.1,(hb.cell (p:=⟨b,1,none⟩) h.2.2.2).trans h.2.1,(hb.cell (p:=⟨b,2,none⟩) h.2.2.2).trans h.2.2.1,Nat.lt_of_lt_of_le h.2.2.2 hb.size⟩
theorem add4_any (x:Rec)(b:Nat)(f:ByteArray×Int×ByteArray)(w:World)(hh:Zu w b f):
 Calls Tryz.prog 92 #[zB x,.pointer (some ⟨b,0,none⟩)] w fun e w'=>e= .returned (.bool (uP f x))∧Below w.heap.size w w':=by
 obtain⟨wa,hwa⟩:∃W,W=w.alloc (.cells (recC x).toArray 51):=⟨_,rfl⟩
 obtain⟨hBa,hsa,hxa⟩:=qM w wa x hwa
 obtain⟨bx,hbx⟩:∃b,b=w.heap.size:=⟨_,rfl⟩
 rw[← hbx]at hxa
 have zU:bx<wa.heap.size:=by omega
 obtain⟨x0,x1,x2,x3,x4⟩:=id hxa
 have HWA:=Lib.hid hwa;have HBX:=Lib.hid hbx;have yH:=Lib.hid zU;have HXA:=Lib.hid hxa;have HBA:=Lib.hid hBa
 obtain⟨f0,f1,f2⟩:=f
 obtain⟨c0,c1,c2,-⟩:=hh.below hBa
 obtain⟨⟨g0,g1,g2⟩,hg⟩:∃g,g=zn.zf x:=⟨_,rfl⟩
 have CK:Hid (∀p,Calls Tryz.prog 31 #[.agg #[.string x.owner,.int .i64 x.typ,.int .i64 x.cls,.int .i64 x.ttl,.string x.data]] (gw wa p) fun e w''=>e= .returned (.agg #[.string g0,.int .i64 g1,.string g2])∧∃p',w''=gw wa p'):=Lib.hid fun p=>by have h:=xN x (gw wa p);rw[← hg]at h;exact qL h
 obtain⟨q,hq⟩:∃q,q=uP (f0,f1,f2) x:=⟨_,rfl⟩
 rw[← hq]
 have fq:decide ((g0,g1,g2)=(f0,f1,f2))=q:=by rw[hq,hg];rfl
 have FQ:=Lib.hid fq
 clear fq
 have HG:=Lib.hid hg
 have k0:=qh x0;have k1:=qh x1;have k2:=qh x2;have k3:=qh x3;have k4:=qh x4
 have k5:=qh c0;have k6:=qh c1;have k7:=qh c2
 clear hg hq hwa hBa hsa hbx zU hxa hh x0 x1 x2 x3 x4 c0 c1 c2
 go_enter Tryz.func92,Tryz.ntmps92
 go_upto_region 1 with fail
 rw[← HWA.out,← HBX.out]
 refine qj (by kernel_rfl) (by kernel_rfl) ?_
 repeat (with_reducible refine wpQuiet_step (fun K hK=>?_);go_simp;(try simp only[undef]);first | (with_reducible refine hK _ ?_;clear hK K) | (apply Exists.intro;refine⟨fun _=>?_,hK _ ?_⟩;(go_at_call 31;with_reducible exact CK.out _);clear hK K))
 with_reducible refine wpQuiet_step (fun K hK=>?_)
 go_simp
 refine⟨.bool q,fun _=>?_,hK _ ?_⟩
 ·rw[like_if]
  by_cases h:(g0,g1,g2)=(f0,f1,f2)
  ·rw[if_pos h,← FQ.out,decide_eq_true h];exact⟨rfl,rfl⟩
  ·rw[if_neg h,← FQ.out,decide_eq_false h];exact⟨rfl,rfl⟩
 clear hK K
 repeat (with_reducible refine wpQuiet_step (fun K hK=>?_);go_simp;(try simp only[undef]);(with_reducible refine hK _ ?_;clear hK K))
 refine wpQuiet_nil ?_
 (try simp only[show Value.tuple #[]=undef from rfl])
 intro W hW
 have hBW:Below wa.heap.size wa W:=by obtain⟨p,rfl⟩:=hW;exact qp _ p
 clear hW
 go_wp2_with fail
 go_ret
 exact⟨rfl,HBA.out.trans (hBW.mono HBA.out.size)⟩
theorem UH (x:Rec)(b:Nat)(f:ByteArray×Int×ByteArray)(w:World)(hh:Zu w b f):
 Calls Tryz.prog 94 #[zB x,.pointer (some ⟨b,0,none⟩)] w fun e w'=>e= .returned (.bool (uP f x))∧Below w.heap.size w w':=by
 obtain⟨wa,hwa⟩:∃W,W=w.alloc (.cells (recC x).toArray 51):=⟨_,rfl⟩
 obtain⟨hBa,hsa,hxa⟩:=qM w wa x hwa
 obtain⟨bx,hbx⟩:∃b,b=w.heap.size:=⟨_,rfl⟩
 rw[← hbx]at hxa
 have zU:bx<wa.heap.size:=by omega
 obtain⟨x0,x1,x2,x3,x4⟩:=id hxa
 have HWA:=Lib.hid hwa;have HBX:=Lib.hid hbx;have yH:=Lib.hid zU;have HXA:=Lib.hid hxa;have HBA:=Lib.hid hBa
 obtain⟨f0,f1,f2⟩:=f
 obtain⟨c0,c1,c2,-⟩:=hh.below hBa
 obtain⟨⟨g0,g1,g2⟩,hg⟩:∃g,g=zn.zf x:=⟨_,rfl⟩
 have CK:Hid (∀p,Calls Tryz.prog 31 #[.agg #[.string x.owner,.int .i64 x.typ,.int .i64 x.cls,.int .i64 x.ttl,.string x.data]] (gw wa p) fun e w''=>e= .returned (.agg #[.string g0,.int .i64 g1,.string g2])∧∃p',w''=gw wa p'):=Lib.hid fun p=>by have h:=xN x (gw wa p);rw[← hg]at h;exact qL h
 obtain⟨q,hq⟩:∃q,q=uP (f0,f1,f2) x:=⟨_,rfl⟩
 rw[← hq]
 have fq:decide ((g0,g1,g2)=(f0,f1,f2))=q:=by rw[hq,hg];rfl
 have FQ:=Lib.hid fq
 clear fq
 have HG:=Lib.hid hg
 have k0:=qh x0;have k1:=qh x1;have k2:=qh x2;have k3:=qh x3;have k4:=qh x4
 have k5:=qh c0;have k6:=qh c1;have k7:=qh c2
 clear hg hq hwa hBa hsa hbx zU hxa hh x0 x1 x2 x3 x4 c0 c1 c2
 go_enter Tryz.func94,Tryz.ntmps94
 go_upto_region 1 with fail
 rw[← HWA.out,← HBX.out]
 refine qj (by kernel_rfl) (by kernel_rfl) ?_
 repeat (with_reducible refine wpQuiet_step (fun K hK=>?_);go_simp;(try simp only[undef]);first | (with_reducible refine hK _ ?_;clear hK K) | (apply Exists.intro;refine⟨fun _=>?_,hK _ ?_⟩;(go_at_call 31;with_reducible exact CK.out _);clear hK K))
 with_reducible refine wpQuiet_step (fun K hK=>?_)
 go_simp
 refine⟨.bool q,fun _=>?_,hK _ ?_⟩
 ·rw[like_if]
  by_cases h:(g0,g1,g2)=(f0,f1,f2)
  ·rw[if_pos h,← FQ.out,decide_eq_true h];exact⟨rfl,rfl⟩
  ·rw[if_neg h,← FQ.out,decide_eq_false h];exact⟨rfl,rfl⟩
 clear hK K
 repeat (with_reducible refine wpQuiet_step (fun K hK=>?_);go_simp;(try simp only[undef]);(with_reducible refine hK _ ?_;clear hK K))
 refine wpQuiet_nil ?_
 (try simp only[show Value.tuple #[]=undef from rfl])
 intro W hW
 have hBW:Below wa.heap.size wa W:=by obtain⟨p,rfl⟩:=hW;exact qp _ p
 clear hW
 go_wp2_with fail
 go_ret
 exact⟨rfl,HBA.out.trans (hBW.mono HBA.out.size)⟩
end Go.Proofs.YtdjjemajfphjaaaGreat
namespace Go.Proofs.YtdjjemajfphjaaaGreat
open Go.RowKit Go.Shelf nm od
namespace up
def QO (n:ByteArray)(top:Bool)(x y:Rec):Bool:=yf n y && (decide (x.typ=255) || decide (x.typ=y.typ)) && !(top && (decide (y.typ=6) || decide (y.typ=2)))
end up
theorem VY (args:Array Value)(w:World):(callFunc 93 args).run Tryz.prog w= .ok (.enter 93 args) w:=by kernel_rfl
theorem QP (args:Array Value)(w:World):(callFunc 94 args).run Tryz.prog w= .ok (.enter 94 args) w:=by kernel_rfl
theorem clear1_any (x y:Rec)(top:Bool)(b5 b4 b3 bn:Nat)(n:ByteArray)(w:World)(h5:w.cell? ⟨b5,0,none⟩=some (.bool top))(l5:b5<w.heap.size)(hh:uE w b4 bn n)(h3:QT w b3 0 x)(l3:b3<w.heap.size):
 Calls Tryz.prog 93 #[zB y,.pointer (some ⟨b5,0,none⟩),.pointer (some ⟨b4,0,none⟩),.pointer (some ⟨b3,0,none⟩)] w fun e w'=>e= .returned (.bool (up.QO n top x y))∧Below w.heap.size w w':=by
 obtain⟨wa,hwa⟩:∃W,W=w.alloc (.cells (recC y).toArray 51):=⟨_,rfl⟩
 obtain⟨hBa,hsa,hxa⟩:=qM w wa y hwa
 obtain⟨bx,hbx⟩:∃b,b=w.heap.size:=⟨_,rfl⟩
 rw[← hbx]at hxa
 have zU:bx<wa.heap.size:=by omega
 obtain⟨x0,x1,x2,x3,x4⟩:=id hxa
 have HWA:=Lib.hid hwa;have HBX:=Lib.hid hbx;have yH:=Lib.hid zU;have HXA:=Lib.hid hxa;have HBA:=Lib.hid hBa
 have HH:=Lib.hid (hh.below hBa)
 have H3:=Lib.hid (h3.keep (hBa.block b3 l3))
 have L3:=Lib.hid (show b3<wa.heap.size by omega)
 have c5:wa.cell? ⟨b5,0,none⟩=some (.bool top):=(hBa.cell (p:=⟨b5,0,none⟩) l5).trans h5
 obtain⟨c4,cn,l4,ln⟩:=id HH.out
 have hcf:=uM
 have CA:=Lib.hid (ZY y bn n wa ln cn)
 obtain⟨sb,hsb⟩:∃sb,sb=(top && (decide (y.typ=6) || decide (y.typ=2))):=⟨_,rfl⟩
 have HSB:=Lib.hid hsb
 clear hwa hBa hsa hbx zU hxa hh h3 l3 h5 l5 cn l4 ln hsb
 go_enter Tryz.func93,Tryz.ntmps93
 go_upto_region 1 with fail
 rw[← HWA.out,← HBX.out]
 go_cut [6] (fun t wx=>t= .bool sb∧wa=wx)
 case first=>
  cases top
  ·have HE:=Lib.hid (show sb=false by rw[HSB.out];rfl)
   go_wp2_with fail
   go_meet
   exact⟨by rw[HE.out],rfl⟩
  ·by_cases k6:y.typ=6
   ·have d6:(y.typ == 6)=true:=by rw[beq_iff_eq];exact k6
    have HE:=Lib.hid (show sb=true by rw[HSB.out];simp[k6])
    clear k6
    go_wp2_with fail
    go_meet
    exact⟨by rw[HE.out],rfl⟩
   ·have d6:(y.typ == 6)=false:=by rw[beq_eq_false_iff_ne];exact k6
    by_cases k2:y.typ=2
    ·have d2:(y.typ == 2)=true:=by rw[beq_iff_eq];exact k2
     have HE:=Lib.hid (show sb=true by rw[HSB.out];simp[k2])
     clear k6 k2
     go_wp2_with fail
     go_meet
     exact⟨by rw[HE.out],rfl⟩
    ·have d2:(y.typ == 2)=false:=by rw[beq_eq_false_iff_ne];exact k2
     have HE:=Lib.hid (show sb=false by rw[HSB.out];simp[k2,k6])
     clear k6 k2
     go_wp2_with fail
     go_meet
     exact⟨by rw[HE.out],rfl⟩
 case rest=>
  obtain⟨rfl,rfl⟩:=hcut
  clear c5
  go_wp2_with fail
  refine CA.out.mono ?_
  rintro e w2 ⟨rfl,hB2⟩
  obtain⟨y0,y1,y2,y3,y4⟩:=HXA.out.keep (hB2.block bx yH.out)
  obtain⟨z0,z1,z2,z3,z4⟩:=H3.out.keep (hB2.block b3 L3.out)
  have HB2:=Lib.hid (HBA.out.trans (hB2.mono HBA.out.size))
  obtain⟨hb,hhb⟩:∃hb,hb=yf n y:=⟨_,rfl⟩
  rw[← hhb]
  have HR0:=Lib.hid (show up.QO n top x y=(hb && (decide (x.typ=255) || decide (x.typ=y.typ)) && !sb) by unfold up.QO;rw[hhb,HSB.out])
  clear hB2 x0 x1 x2 x3 x4 c4 hhb
  cases hb
  ·have HR:=Lib.hid (show up.QO n top x y=false by rw[HR0.out];rfl)
   go_wp2_with fail
   go_ret
   exact⟨qA HR.out.symm,HB2.out⟩
  ·by_cases k1:x.typ=255
   ·have d1:(x.typ == 255)=true:=by rw[beq_iff_eq];exact k1
    have HR:=Lib.hid (show up.QO n top x y= !sb by rw[HR0.out];simp[k1])
    clear k1
    go_wp2_with fail
    go_ret
    exact⟨qA HR.out.symm,HB2.out⟩
   ·have d1:(x.typ == 255)=false:=by rw[beq_eq_false_iff_ne];exact k1
    by_cases k2:x.typ=y.typ
    ·have d2:(x.typ == y.typ)=true:=by rw[beq_iff_eq];exact k2
     have HR:=Lib.hid (show up.QO n top x y= !sb by rw[HR0.out];simp[k2])
     clear k1 k2
     go_wp2_with fail
     go_ret
     exact⟨qA HR.out.symm,HB2.out⟩
    ·have d2:(x.typ == y.typ)=false:=by rw[beq_eq_false_iff_ne];exact k2
     have HR:=Lib.hid (show up.QO n top x y=false by rw[HR0.out];simp[k1,k2])
     clear k1 k2
     go_wp2_with fail
     go_ret
     exact⟨qA HR.out.symm,HB2.out⟩
def xI (w:World)(base st:Nat)(qf:ByteArray)(l:List Rec)(e:Ending)(w':World):Prop:=e= .returned (.tuple #[])∧zR w' base st qf l∧Below base w w'
theorem Zb {w w':World}{base st:Nat}(hg:w.grownBy w' (some st))(hb:base≤w.heap.size)(hs:base≤st):Below base w w':=(Below.refl base w).grown hg hb (fun j hj=>by cases hj;exact hs)
theorem zR.kI {w:World}{base st:Nat}{qf:ByteArray}{l:List Rec}(h:zR w base st qf l):base≤st:=by obtain⟨_,_,h,_⟩:=h;exact h
theorem zR.apex_ {w:World}{base st:Nat}{qf:ByteArray}{l:List Rec}(h:zR w base st qf l):w.cell? ⟨st,0,none⟩=some (.string qf):=by obtain⟨_,h,_⟩:=h;rw[qg h];rfl
end Go.Proofs.YtdjjemajfphjaaaGreat
