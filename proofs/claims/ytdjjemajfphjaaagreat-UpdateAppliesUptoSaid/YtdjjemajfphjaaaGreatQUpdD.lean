import Derived.Test.YtdjjemajfphjaaaGreatQMapF
import Derived.Test.YtdjjemajfphjaaaGreatQZoneC
import Derived.Test.YtdjjemajfphjaaaGreatQNameA
import Derived.Test.YtdjjemajfphjaaaGreatQUpdG
import Derived.Test.YtdjjemajfphjaaaGreatQRUpd
import Derived.Test.YtdjjemajfphjaaaGreatQZoneP
import Derived.Test.YtdjjemajfphjaaaGreatQSerial
import Derived.Test.YtdjjemajfphjaaaGreatQRzE
import Derived.Test.YtdjjemajfphjaaaGreatQRefF
import Derived.Test.YtdjjemajfphjaaaGreatQRCon
import Derived.Test.YtdjjemajfphjaaaGreatQUpdE
import Derived.Test.YtdjjemajfphjaaaGreatQUpdU
import Derived.Defers
import Derived.Recover
import Derived.Laws.Pointers
import Derived.WalkSmall
import Derived.Deep.CutBlock
set_option maxRecDepth 100000
set_option maxHeartbeats 4000000
namespace Go.Proofs.YtdjjemajfphjaaaGreat
open Go.RowKit Go.Shelf Go.WideMaps Go.WideElems Go.MapKept nm od
def BM (w:World)(b:Nat)(f:Bool→Option Int):Prop:=
 ∃es clock,w.heap[b]? =some (.map es clock)∧(∀e∈es.toList,∃k v,e.key= .bool k∧e.val= .int .i64 v∧f k=some v)∧∀k v,f k=some v→∃e∈es.toList,e.key= .bool k
theorem BM.lt {w:World}{b:Nat}{f:Bool→Option Int}(h:BM w b f):b<w.heap.size:=by obtain⟨_,_,h,_⟩:=h;exact qw h
theorem BM.keep {w w':World}{b:Nat}{f:Bool→Option Int}(h:BM w b f)(hk:∀o,w.heap[b]? =some o→w'.heap[b]? =some o):BM w' b f:=by
 obtain⟨es,c,h1,h2⟩:=h
 exact⟨es,c,hk _ h1,h2⟩
theorem BM.below {w w':World}{b:Nat}{f:Bool→Option Int}(h:BM w b f)(hb:Below w.heap.size w w'):BM w' b f:=h.keep fun _ ho=>(hb.block b h.lt).trans ho
theorem BM.made (w:World):BM (w.alloc (.map #[] 0)) w.heap.size (fun _=>none):=⟨#[],0,qo rfl,by simp,by simp⟩
theorem Vg {w:World}{b:Nat}{f:Bool→Option Int}(h:BM w b f)(k:Bool)(hn:f k=none)(p:Int):
 ∃w1,(Instr.mapUpdate 116 (.map (some b)) (.bool k) (.int .i64 p)).run Tryz.prog w= .ok () w1∧w.grownBy w1 (some b)∧BM w1 b (fun j=>if j=k then some p else f j):=by
 obtain⟨es,clock,h1,h2,h3⟩:=h
 have hkey:∀x∈es.toList,IsKey .bool x.key:=fun x hx=>by obtain⟨j,v,e,_⟩:=h2 x hx;rw[e];trivial
 have hf:(Instr.findKey 4 (.bool k) es.toList).run Tryz.prog w= .ok none w:=by
  rcases findNow_spec (d:=.bool) (k:=.bool k) trivial es.toList 0 hkey with⟨g1,_⟩|⟨j,e,_,g2,g3⟩
  ·exact run_findKey Tryz.underlying4 g1
  ·exfalso
   obtain⟨k',v,e1,_,e3⟩:=h2 e (List.mem_of_getElem? g2)
   rw[e1]at g3
   simp at g3
   rw[g3,hn]at e3
   cases e3
 refine⟨kM w b (es.push ⟨.bool k,.int .i64 p,clock⟩) (clock+1),?_,kL,_,_,uI (qw h1),fun e he=>?_,fun j v hj=>?_⟩
 ·simp[Instr.mapUpdate,run_underlying Tryz.underlying116,Go.MapKept.run_getObj_map h1,run_checkKey (k:=.bool k) Tryz.underlying4 (show IsKey .bool (.bool k) from trivial),hf,Go.MapKept.run_setObj_map _ h1,kM]
 ·rw[Array.toList_push]at he
  rcases List.mem_append.1 he with he | he
  ·obtain⟨j,v,e1,e2,e3⟩:=h2 e he
   refine⟨j,v,e1,e2,?_⟩
   have:j≠k:=fun e=>by rw[e,hn]at e3;cases e3
   show(if j=k then some p else f j)=_
   rw[if_neg this];exact e3
  ·rw[List.mem_singleton]at he
   subst he
   exact⟨k,p,rfl,rfl,if_pos rfl⟩
 ·rw[Array.toList_push]
  by_cases hjk:j=k
  ·subst hjk
   exact⟨_,List.mem_append_right _ (List.mem_singleton.2 rfl),rfl⟩
  ·simp only[if_neg hjk]at hj
   obtain⟨e,he,h⟩:=h3 j v hj
   exact⟨e,List.mem_append_left _ he,h⟩
theorem bm_look {w:World}{b:Nat}{f:Bool→Option Int}(h:BM w b f){k:Bool}{p:Int}(hp:f k=some p):
 (Instr.lookup 116 (.map (some b)) (.bool k) false).run Tryz.prog w= .ok (.int .i64 p) w:=by
 obtain⟨es,clock,h1,h2,h3⟩:=h
 have hkey:∀x∈es.toList,IsKey .bool x.key:=fun x hx=>by obtain⟨j,v,e,_⟩:=h2 x hx;rw[e];trivial
 rcases findNow_spec (d:=.bool) (k:=.bool k) trivial es.toList 0 hkey with⟨_,g1⟩|⟨j,e,g1,g2,g3⟩
 ·obtain⟨e,he,hk⟩:=h3 k p hp
  exact absurd hk (g1 e he)
 ·have hf:=run_findKey (P:=Tryz.prog) (w:=w) Tryz.underlying4 g1
  obtain⟨k',v,e1,e2,e3⟩:=h2 e (List.mem_of_getElem? g2)
  rw[e1]at g3
  simp at g3
  rw[g3,hp]at e3
  simp at e3
  rw[e2,← e3]at hf
  simp[Instr.lookup,run_underlying Tryz.underlying116,Go.MapKept.run_getObj_map h1,run_checkKey (k:=.bool k) Tryz.underlying4 (show IsKey .bool (.bool k) from trivial),hf]
end Go.Proofs.YtdjjemajfphjaaaGreat
namespace Go.Proofs.YtdjjemajfphjaaaGreat
open Go.RowKit Go.Shelf
def thrown (c:Int):List PanicEntry:=[{ v:=.iface 110 (.int .i64 c),recovered:=false}]
theorem j3 (c:Int)(w:World):Calls Tryz.prog 26 #[.bool true,.int .i64 c] w fun e w'=>e= .returned (.tuple #[])∧w=w':=by
 go_enter Tryz.func26,Tryz.ntmps26
 go_wp2_with fail
 go_end0
 exact⟨rfl,rfl⟩
theorem jw (c:Int)(w:World):Calls Tryz.prog 26 #[.bool false,.int .i64 c] w fun e w'=>e= .panicked (thrown c)∧w=w':=by
 go_enter Tryz.func26,Tryz.ntmps26
 go_wp2_with fail
 exact⟨rfl,rfl,rfl⟩
theorem UD (p:Addr)(c:Int)(x:Int)(w:World)(hc:w.cell? p=some (.int .i64 x))(hz:w.frozen? p=false):
 CallsD Tryz.prog 67 #[.pointer (some p)] (.panicking ({ v:=.iface 110 (.int .i64 c),recovered:=false} :: [])) w fun e u' w'=>
  e= .returned (.tuple #[])∧u'= .panicking ({ v:=.iface 110 (.int .i64 c),recovered:=true} :: [])∧w'=w.setCell p (.int .i64 c):=by
 have hta:∀w:World,(Instr.typeAssert (.iface 110 (.int .i64 c)) 20 110 true).run Tryz.prog w= .ok (.tuple #[.int .i64 c,.bool true]) w:=fun w=>by kernel_rfl
 refine callsD_of_wpS Tryz.func67 rfl fun c₀ cs hu=>?_
 apply wpS_seq
 apply wpS_region
 simp[wpOpsS,go_sem,recoverD,hu,Tryz.ntmps67,Exit.thenS]
 apply wpS_seq
 apply wpS_region
 simp[wpOpsS,go_sem,Exit.thenS]
 refine wpS_cond (t:=true) (by simp[Act.eval,Array.replicate]) ?_
 simp only[if_true]
 apply wpS_seq
 apply wpS_region
 simp[wpOpsS,go_sem,Exit.thenS,hta]
 apply wpS_seq
 apply wpS_seq
 apply wpS_region
 simp[wpOpsS,go_sem,Exit.thenS]
 refine wpS_cond (t:=false) (by simp[Act.eval,Array.replicate]) ?_
 simp only[Bool.false_eq_true,if_false]
 refine wpS_of_wp (wp_skip ?_)
 simp only[Exit.thenS]
 apply wpS_region
 simp[wpOpsS,go_sem,hc,hz,bodyPostS,results,Tryz.results67]
theorem ucatch_idle (p:Addr)(w:World):
 CallsD Tryz.prog 67 #[.pointer (some p)] .returning w fun e u' w'=>e= .returned (.tuple #[])∧u'= .returning∧w'=w:=by
 refine callsD_of_wpS Tryz.func67 rfl fun c₀ cs hu=>?_
 apply wpS_seq
 apply wpS_region
 simp[wpOpsS,go_sem,recoverD,hu,Tryz.ntmps67,Exit.thenS]
 apply wpS_seq
 apply wpS_region
 simp[wpOpsS,go_sem,Exit.thenS]
 refine wpS_cond (t:=false) (by simp[Act.eval,Array.replicate]) ?_
 simp only[Bool.false_eq_true,if_false]
 refine wpS_of_wp (wp_skip ?_)
 cases c₀
 simp_all[bodyPostS,results,Tryz.results67]
theorem caught_any (g:FuncId)(lb:Array Value)(heg:∀args w,(callFunc g args).run Tryz.prog w= .ok (.enter g args) w)(c:Int)(w:World)
 (hdo:∀X,Below w.heap.size w X→Calls Tryz.prog g lb X fun e X'=>((c=0∧e= .returned (.tuple #[]))∨(c≠0∧e= .panicked (thrown c)))∧Below X.heap.size X X'):
 Calls Tryz.prog 24 #[.func (.func g) #[] lb] w fun e w'=>e= .returned (.int .i64 c)∧Below w.heap.size w w':=by
 have hmf:∀(fn:Fn) (first cap:Array Value) (w:World),(Instr.makeFunc fn first cap).run Tryz.prog w= .ok (.func fn first cap) w:=fun _ _ _ _=>rfl
 obtain⟨b,hb⟩:∃b,b=w.heap.size:=⟨_,rfl⟩
 obtain⟨X,hX⟩:∃X,X=w.alloc (.cells #[.int .i64 0] 3):=⟨_,rfl⟩
 have hBX:Below w.heap.size w X:=by rw[hX];exact(Below.refl _ w).alloc (Nat.le_refl _) _
 have hsX:X.heap.size=w.heap.size+1:=by rw[hX,World.size_alloc]
 have hbX:X.heap[b]? =some (.cells #[.int .i64 0] 3 (0,0)):=by rw[hX];exact qo hb
 have HDO:=Lib.hid (hdo X hBX)
 have HX:=Lib.hid hX;have HB:=Lib.hid hb;have HBX:=Lib.hid hBX;have HS:=Lib.hid hsX;have HBB:=Lib.hid hbX
 clear hdo hX hb hBX hsX hbX
 go_enter_defers Tryz.func24,Tryz.ntmps24
 go_upto_region 2 with fail
 rw[← HX.out,← HB.out]
 go_wp2_with fail
 refine HDO.out.mono ?_
 rintro e X' ⟨he,hB⟩
 have hbX':X'.heap[b]? =some (.cells #[.int .i64 0] 3 (0,0)):=(hB.block b (by have:=HB.out;have:=HS.out;omega)).trans HBB.out
 have hc:X'.cell? ⟨b,0,none⟩=some (.int .i64 0):=by rw[qg hbX'];rfl
 have hz:X'.frozen? ⟨b,0,none⟩=false:=qE hbX' 0
 have HBw:=Lib.hid (HBX.out.trans (hB.mono HBX.out.size))
 rcases he with⟨rfl,rfl⟩|⟨hne,rfl⟩
 ·go_wp2_with fail
  have hc2:(X'.setCell ⟨b,0,none⟩ (.int .i64 0)).cell? ⟨b,0,none⟩=some (.int .i64 0):=World.cell?_setCell_same' _ _ _ (by rw[hc];rfl)
  have HBs:=HBw.out.setCell (p:=⟨b,0,none⟩) (show w.heap.size≤b by rw[HB.out];exact Nat.le_refl _) (.int .i64 0)
  refine leaves_cons (f:=67) (args:=#[.pointer (some ⟨b,0,none⟩)]) (by simp) (by simp[go_sem]) ?_
  refine(ucatch_idle ⟨b,0,none⟩ _).mono ?_
  rintro e u' w'' ⟨rfl,rfl,rfl⟩
  simp[Leaves,settle,results,Tryz.results24,go_sem,hc2,HBs]
 ·have hc2:(X'.setCell ⟨b,0,none⟩ (.int .i64 c)).cell? ⟨b,0,none⟩=some (.int .i64 c):=World.cell?_setCell_same' _ _ _ (by rw[hc];rfl)
  have HBs:=HBw.out.setCell (p:=⟨b,0,none⟩) (show w.heap.size≤b by rw[HB.out];exact Nat.le_refl _) (.int .i64 c)
  refine leaves_cons (f:=67) (args:=#[.pointer (some ⟨b,0,none⟩)]) (by simp) (by simp[go_sem]) ?_
  refine(UD ⟨b,0,none⟩ c 0 _ hc hz).mono ?_
  rintro e u' w'' ⟨rfl,rfl,rfl⟩
  simp[Leaves,settle,results,Tryz.results24,go_sem,hc2,HBs]
end Go.Proofs.YtdjjemajfphjaaaGreat
namespace Go.Proofs.YtdjjemajfphjaaaGreat
open Go.RowKit Go.Shelf nm od
def ThrownC (c:Int)(w:World)(e:Ending)(w':World):Prop:=((c=0∧e= .returned (.tuple #[]))∨(c≠0∧e= .panicked (thrown c)))∧Below w.heap.size w w'
theorem change_any (z:Nat)(qf:ByteArray)(rv sv tv:Value)(x:Rec)(w:World)(hz:kF w z qf rv sv tv):
 Calls Tryz.prog 33 #[.pointer (some ⟨z,0,none⟩),zB x] w fun e w'=>ThrownC (up.yc qf x) w e w':=by
 obtain⟨wa,hwa⟩:∃W,W=w.alloc (.cells (recC x).toArray 51):=⟨_,rfl⟩
 obtain⟨hBa,hsa,hxa⟩:=qM w wa x hwa
 obtain⟨bx,hbx⟩:∃b,b=w.heap.size:=⟨_,rfl⟩
 rw[← hbx]at hxa
 have zU:bx<wa.heap.size:=by omega
 obtain⟨x0,x1,x2,x3,x4⟩:=id hxa
 have HWA:=Lib.hid hwa;have HBX:=Lib.hid hbx;have yH:=Lib.hid zU;have HXA:=Lib.hid hxa;have HBA:=Lib.hid hBa
 obtain⟨ib,hib⟩:∃ib,ib=qU x.owner qf:=⟨_,rfl⟩
 have HZ:=Lib.hid (show ∀X,Below wa.heap.size wa X→kF X z qf rv sv tv from fun X hX=>(hX.block z (by have:=qw hz;omega)).trans ((hBa.block z (qw hz)).trans hz))
 have CAp:Hid (∀p,Calls Tryz.prog 16 #[.pointer (some ⟨z,0,none⟩)] (gw wa p) fun e w''=>e= .returned (.string qf)∧∃p',w''=gw wa p'):=Lib.hid fun p=>uZ (ve z qf rv sv tv _ (HZ.out _ (qp wa p)))
 have CW:Hid (∀p,Calls Tryz.prog 71 #[.string x.owner,.string qf] (gw wa p) fun e w''=>e= .returned (.bool ib)∧∃p',w''=gw wa p'):=Lib.hid fun p=>by rw[hib];exact qL (JW x.owner qf _)
 have HIB:=Lib.hid hib
 clear hwa hBa hsa hbx zU hxa hz hib
 go_enter Tryz.func33,Tryz.ntmps33
 go_upto_region 1 with fail
 rw[← HWA.out,← HBX.out]
 cases ib
 ·have HC:=Lib.hid (up.chg_out (x:=x) HIB.out.symm)
  have k0:=qh x0
  refine ze (C:=fun W=>∃p,W=gw wa p) 5 (by kernel_rfl) (by kernel_rfl) (uL wa) ?_
  simp only[List.take_succ_cons,List.take_zero,List.drop_succ_cons,List.drop_zero]
  repeat (with_reducible refine wpQuiet_step (fun K hK=>?_);go_simp;first | (with_reducible refine hK _ ?_;clear hK K) | (apply Exists.intro;refine⟨fun _=>?_,hK _ ?_⟩;(first | (go_at_call 16;with_reducible exact CAp.out _) | (go_at_call 71;with_reducible exact CW.out _));clear hK K))
  with_reducible refine wpQuiet_nil ?_
  intro W hW
  have hBW:Below wa.heap.size wa W:=by obtain⟨p,rfl⟩:=hW;exact qp _ _
  have HB5:=Lib.hid (HBA.out.trans (hBW.mono HBA.out.size))
  clear hW hBW k0 x0 x1 x2 x3 x4
  go_wp2_with fail
  refine(jw 10 _).mono ?_
  rintro e wN ⟨rfl,rfl⟩
  exact⟨rfl,.inr ⟨by rw[HC.out];decide,by rw[HC.out]⟩,HB5.out⟩
 ·have CA:Hid (∀p,Calls Tryz.prog 26 #[.bool true,.int .i64 10] (gw wa p) fun e w''=>e= .returned (.tuple #[])∧∃p',w''=gw wa p'):=Lib.hid fun p=>Zq (j3 10 _)
  have k0:=qh x0
  refine qj (by kernel_rfl) (by kernel_rfl) ?_
  repeat (with_reducible refine wpQuiet_step (fun K hK=>?_);go_simp;(try simp only[undef]);first | (with_reducible refine hK _ ?_;clear hK K) | (apply Exists.intro;refine⟨fun _=>?_,hK _ ?_⟩;(first | (go_at_call 16;with_reducible exact CAp.out _) | (go_at_call 71;with_reducible exact CW.out _) | (go_at_call 26;with_reducible exact CA.out _));clear hK K) | (with_reducible refine⟨fun _ h=>(by cases h),?_⟩;with_reducible refine hK _ ?_;clear hK K))
  refine wpQuiet_nil ?_
  (try simp only[show Value.tuple #[]=undef from rfl])
  intro W hW
  have hBW:Below wa.heap.size wa W:=by obtain⟨g,rfl⟩:=hW;exact qp _ g
  clear hW
  obtain⟨y0,y1,y2,y3,y4⟩:=HXA.out.keep (hBW.block bx yH.out)
  have HB5:=Lib.hid (HBA.out.trans (hBW.mono HBA.out.size))
  have V8:=Lib.hid (show bx<W.heap.size from Nat.lt_of_lt_of_le yH.out hBW.size)
  have HXW:=Lib.hid (HXA.out.keep (hBW.block bx yH.out))
  clear hBW k0 x0 x1 x2 x3 x4
  go_wp2_with fail
  refine(kQ _ _ _).mono ?_
  rintro e w6 ⟨rfl,hB6⟩
  obtain⟨z0,z1,z2,z3,z4⟩:=HXW.out.keep (hB6.block bx V8.out)
  have HB6:=Lib.hid (HB5.out.trans (hB6.mono HB5.out.size))
  clear hB6 y0 y1 y2 y3 y4
  obtain⟨t0,ht0⟩:∃t,t=dt.yo x.typ ⟨#[]⟩:=⟨_,rfl⟩
  rw[← ht0]
  obtain⟨tb,htb⟩:∃tb,tb=(t0 != 6):=⟨_,rfl⟩
  have e6:(t0 != 6)=tb:=htb.symm
  have HT0:=Lib.hid ht0;have HTB:=Lib.hid htb
  clear ht0 htb
  by_cases k1:x.cls=1
  ·have d1:(x.cls == 1)=true:=by rw[beq_iff_eq];exact k1
   have hc0:=up.chg_in (x:=x) HIB.out.symm k1
   by_cases m1:x.ttl≤2147483647
   ·have d2:decide (x.ttl≤2147483647)=true:=decide_eq_true m1
    have HC:=Lib.hid (show up.yc qf x=0 by rw[hc0,if_pos m1])
    clear hc0 k1 m1
    go_wp2_with fail
    refine(j3 1 _).mono ?_
    rintro e wN ⟨rfl,rfl⟩
    go_wp2_with fail
    go_end0
    exact⟨.inl ⟨HC.out,rfl⟩,HB6.out⟩
   ·have d2:decide (x.ttl≤2147483647)=false:=decide_eq_false m1
    have HC:=Lib.hid (show up.yc qf x=1 by rw[hc0,if_neg m1])
    clear hc0 k1 m1
    go_wp2_with fail
    refine(jw 1 _).mono ?_
    rintro e wN ⟨rfl,rfl⟩
    exact⟨rfl,.inr ⟨by rw[HC.out];decide,by rw[HC.out]⟩,HB6.out⟩
  ·have d1:(x.cls == 1)=false:=by rw[beq_eq_false_iff_ne];exact k1
   by_cases k2:x.cls=255
   ·have d2:(x.cls == 255)=true:=by rw[beq_iff_eq];exact k2
    have hc0:=up.chg_any (x:=x) HIB.out.symm k2
    by_cases m1:x.ttl=0
    ·have d3:(x.ttl == 0)=true:=by rw[beq_iff_eq];exact m1
     by_cases m2:x.data.size=0
     ·have d4:=yg m2
      cases tb
      ·have h6:dt.yo x.typ ⟨#[]⟩=6:=by rw[← HT0.out];exact bne_eq_false_iff_eq.1 HTB.out.symm
       by_cases m3:x.typ=255
       ·have d5:(x.typ == 255)=true:=by rw[beq_iff_eq];exact m3
        have HC:=Lib.hid (show up.yc qf x=0 by rw[hc0,if_pos ⟨m1,m2,.inr m3⟩])
        clear hc0 k1 k2 m1 m2 m3 h6
        go_wp2_with fail
        refine(j3 1 _).mono ?_
        rintro e wN ⟨rfl,rfl⟩
        go_wp2_with fail
        go_end0
        exact⟨.inl ⟨HC.out,rfl⟩,HB6.out⟩
       ·have d5:(x.typ == 255)=false:=by rw[beq_eq_false_iff_ne];exact m3
        have HC:=Lib.hid (show up.yc qf x=1 by rw[hc0,if_neg (fun h=>h.2.2.elim (fun g=>g h6) m3)])
        clear hc0 k1 k2 m1 m2 m3 h6
        go_wp2_with fail
        refine(jw 1 _).mono ?_
        rintro e wN ⟨rfl,rfl⟩
        exact⟨rfl,.inr ⟨by rw[HC.out];decide,by rw[HC.out]⟩,HB6.out⟩
      ·have h6:dt.yo x.typ ⟨#[]⟩≠6:=by rw[← HT0.out];exact bne_iff_ne.1 HTB.out.symm
       have HC:=Lib.hid (show up.yc qf x=0 by rw[hc0,if_pos ⟨m1,m2,.inl h6⟩])
       clear hc0 k1 k2 m1 m2 h6
       go_wp2_with fail
       refine(j3 1 _).mono ?_
       rintro e wN ⟨rfl,rfl⟩
       go_wp2_with fail
       go_end0
       exact⟨.inl ⟨HC.out,rfl⟩,HB6.out⟩
     ·have d4:=yF m2
      have HC:=Lib.hid (show up.yc qf x=1 by rw[hc0,if_neg (fun h=>m2 h.2.1)])
      clear hc0 k1 k2 m1 m2
      go_wp2_with fail
      refine(jw 1 _).mono ?_
      rintro e wN ⟨rfl,rfl⟩
      exact⟨rfl,.inr ⟨by rw[HC.out];decide,by rw[HC.out]⟩,HB6.out⟩
    ·have d3:(x.ttl == 0)=false:=by rw[beq_eq_false_iff_ne];exact m1
     have HC:=Lib.hid (show up.yc qf x=1 by rw[hc0,if_neg (fun h=>m1 h.1)])
     clear hc0 k1 k2 m1
     go_wp2_with fail
     refine(jw 1 _).mono ?_
     rintro e wN ⟨rfl,rfl⟩
     exact⟨rfl,.inr ⟨by rw[HC.out];decide,by rw[HC.out]⟩,HB6.out⟩
   ·have d2:(x.cls == 255)=false:=by rw[beq_eq_false_iff_ne];exact k2
    by_cases k3:x.cls=254
    ·have d3:(x.cls == 254)=true:=by rw[beq_iff_eq];exact k3
     have hc0:=up.chg_no (x:=x) HIB.out.symm k3
     by_cases m1:x.ttl=0
     ·have d4:(x.ttl == 0)=true:=by rw[beq_iff_eq];exact m1
      have HK0:=Lib.hid hc0;have HM1:=Lib.hid m1
      clear hc0 k1 k2 k3 m1
      go_wp2_with fail
      refine(kQ _ _ _).mono ?_
      rintro e w7 ⟨rfl,hB7⟩
      have HB7:=Lib.hid (HB6.out.trans (hB7.mono HB6.out.size))
      clear hB7 z0 z1 z2 z3 z4
      by_cases m2:dt.yo x.typ x.data=0
      ·have d5:(dt.yo x.typ x.data == 0)=true:=by rw[beq_iff_eq];exact m2
       have HC:=Lib.hid (show up.yc qf x=0 by rw[HK0.out,if_pos ⟨HM1.out,m2⟩])
       clear m2
       go_wp2_with fail
       refine(j3 1 _).mono ?_
       rintro e wN ⟨rfl,rfl⟩
       go_wp2_with fail
       go_end0
       exact⟨.inl ⟨HC.out,rfl⟩,HB7.out⟩
      ·have d5:(dt.yo x.typ x.data == 0)=false:=by rw[beq_eq_false_iff_ne];exact m2
       have HC:=Lib.hid (show up.yc qf x=1 by rw[HK0.out,if_neg (fun h=>m2 h.2)])
       clear m2
       go_wp2_with fail
       refine(jw 1 _).mono ?_
       rintro e wN ⟨rfl,rfl⟩
       exact⟨rfl,.inr ⟨by rw[HC.out];decide,by rw[HC.out]⟩,HB7.out⟩
     ·have d4:(x.ttl == 0)=false:=by rw[beq_eq_false_iff_ne];exact m1
      have HC:=Lib.hid (show up.yc qf x=1 by rw[hc0,if_neg (fun h=>m1 h.1)])
      clear hc0 k1 k2 k3 m1
      go_wp2_with fail
      refine(jw 1 _).mono ?_
      rintro e wN ⟨rfl,rfl⟩
      exact⟨rfl,.inr ⟨by rw[HC.out];decide,by rw[HC.out]⟩,HB6.out⟩
    ·have d3:(x.cls == 254)=false:=by rw[beq_eq_false_iff_ne];exact k3
     have HC:=Lib.hid (up.chg_else (x:=x) HIB.out.symm k1 k2 k3)
     clear k1 k2 k3
     go_wp2_with fail
     refine(jw 1 _).mono ?_
     rintro e wN ⟨rfl,rfl⟩
     exact⟨rfl,.inr ⟨by rw[HC.out];decide,by rw[HC.out]⟩,HB6.out⟩
end Go.Proofs.YtdjjemajfphjaaaGreat
namespace Go.Proofs.YtdjjemajfphjaaaGreat
open Go.RowKit Go.Shelf Go.WideMaps nm od
def Uj (w:World)(z y:Nat)(qf:ByteArray)(L:List Rec):Prop:=zn.Valid qf L∧∃top,xu w top z qf L∧vO w y qf L
theorem Uj.kept {w w':World}{z y:Nat}{qf:ByteArray}{L:List Rec}(h:Uj w z y qf L)(hb:Below w.heap.size w w'):Uj w' z y qf L:=by
 obtain⟨h1,top,h2,h3⟩:=h
 exact⟨h1,top,h2.kept hb,h3.below hb⟩
def BothPost (qf:ByteArray)(l:List Rec)(w:World)(e:Ending)(w':World):Prop:=Below w.heap.size w w'∧
 ((zn.yY qf l≠none∧e= .returned (.tuple #[.pointer none,.pointer none,.bool true]))∨
   (zn.yY qf l=none∧∃z y L,zQ l L∧e= .returned (.tuple #[.pointer (some ⟨z,0,none⟩),.pointer (some ⟨y,0,none⟩),.bool true])∧Uj w' z y qf L))
theorem both_any (qf:ByteArray)(K7:qf.size≤1099511627776)(l:List Rec)(hok:∀r∈l,(Lit.int .i64 r.typ).wf=true)(hsz:∀r∈l,r.owner.size≤1099511627776)(v:Value)(hf:yS v)(w:World)(hrv:qy w v l):
 Calls Tryz.prog 6 #[.string qf,v] w fun e w'=>BothPost qf l w e w':=by
 have hnew:=new_any qf l hok _ hf w hrv
 have hmake:=fun W (hB:Below w.heap.size w W)=>rmake_any qf K7 l hsz _ hf W (hrv.below hB)
 obtain⟨a,cap,rfl,-⟩:=id hrv
 have HNEW:=Lib.hid hnew;have HMAKE:=Lib.hid hmake
 clear hnew hmake
 clear hrv hok hsz hf
 go_enter Tryz.func6,Tryz.ntmps6
 go_wp2_with fail
 refine HNEW.out.mono ?_
 intro e w1 hp
 rcases hne:zn.yY qf l with _ | ⟨k0,c0⟩
 ·obtain⟨hB1,z,L,_,hs,rfl,hzf⟩:=KR hp hne
  have hva0:=zn.QC hne
  have hva:zn.Valid qf L:=zn.QC (zn.newE_of hs.1.symm hne)
  have hHM:=HMAKE.out w1 hB1
  have HB1:=Lib.hid hB1;have HZ1:=Lib.hid hzf;have HVA:=Lib.hid hva;have HVA0:=Lib.hid hva0;have HS:=Lib.hid hs;have HM:=Lib.hid hHM;have HNE:=Lib.hid hne
  have hs1:=hB1.size
  clear hp hB1 hzf hva hva0 hs hHM hne
  go_wp2_with fail
  refine HM.out.mono ?_
  rintro e w2 ⟨hB2,hm⟩
  rw[HNE.out]at hm
  obtain⟨y,L',hs',rfl,hy⟩:=hm
  obtain rfl:L'=L:=hs'.eq HS.out HVA0.out.named (zn.V9 (zn.Qa (zn.Q7 HVA0.out.rules)))
  have HB2:=Lib.hid (HB1.out.trans (hB2.mono hs1));have HZ2:=Lib.hid (HZ1.out.kept hB2);have HY2:=Lib.hid hy
  clear hB2 hs' hy
  go_wp2_with fail
  go_ret3
  exact⟨HB2.out,.inr ⟨HNE.out,z,y,L',HS.out,rfl,HVA.out,_,HZ2.out,HY2.out⟩⟩
 ·have hB1:Below w.heap.size w w1∧e= .returned (.tuple #[.pointer none,.int .i64 k0,.int .i64 c0]):=by
   unfold kT at hp
   rw[hne]at hp
   exact hp
  obtain⟨hB1,rfl⟩:=hB1
  have HM:=Lib.hid (HMAKE.out w1 hB1);have HB1:=Lib.hid hB1;have HNE:=Lib.hid hne
  clear hp hB1 hne
  go_wp2_with fail
  refine HM.out.mono ?_
  rintro e w2 ⟨hB2,hm⟩
  rw[HNE.out]at hm
  simp only at hm
  subst hm
  have HB2:=Lib.hid (HB1.out.trans (hB2.mono HB1.out.size))
  clear hB2
  by_cases h0:c0=0
  ·have d0:(c0 != 0)=false:=by rw[bne_eq_false_iff_eq];exact h0
   clear h0
   go_wp2_with fail
   go_ret3
   exact⟨HB2.out,.inl ⟨by rw[HNE.out];simp,rfl⟩⟩
  ·have d0:(c0 != 0)=true:=by rw[bne_iff_ne];exact h0
   clear h0
   go_wp2_with fail
   go_ret3
   exact⟨HB2.out,.inl ⟨by rw[HNE.out];simp,rfl⟩⟩
end Go.Proofs.YtdjjemajfphjaaaGreat
namespace Go.Proofs.YtdjjemajfphjaaaGreat
open Go.RowKit Go.Shelf Go.WideMaps nm od
namespace zn
end zn
end Go.Proofs.YtdjjemajfphjaaaGreat
namespace Go.Proofs.YtdjjemajfphjaaaGreat
open Go.RowKit Go.Shelf Go.WideMaps nm od
def StrsR (w:World)(v:Value)(ss:List ByteArray):Prop:=
 ∃a cap,v= .slice a ss.length cap∧∀k (h:k<ss.length),∃b off,a=some ⟨b,off,none⟩∧b<w.heap.size∧w.cell? ⟨b,off+k,none⟩=some (.string ss[k])
theorem StrsR.below {w w':World}{v:Value}{ss:List ByteArray}(h:StrsR w v ss)(hb:Below w.heap.size w w'):StrsR w' v ss:=by
 obtain⟨a,cap,rfl,h⟩:=h
 refine⟨a,cap,rfl,fun k hk=>?_⟩
 obtain⟨b,off,rfl,hl,hc⟩:=h k hk
 exact⟨b,off,rfl,Nat.lt_of_lt_of_le hl hb.size,(hb.cell (p:=⟨b,off+k,none⟩) hl).trans hc⟩
theorem names_len {qf:ByteArray}{L:List Rec}(hL:L.length≤2000)(_hv:zn.Valid qf L){N:List ByteArray}(h:Xf qf L N):N.length≤512000:=by
 have h1:∀n∈N,n∈zn.Zo (qJ qf).toNat L:=fun n hn=>zn.KT.2 ((h.2.1 n).1 hn)
 have h2:=kN N (zn.Zo (qJ qf).toNat L) h.1 h1
 have h3:=zn.VD (qJ qf).toNat L
 omega
end Go.Proofs.YtdjjemajfphjaaaGreat
namespace Go.Proofs.YtdjjemajfphjaaaGreat
open Go.RowKit Go.Shelf Go.WideMaps nm od
theorem contains_any (N:List ByteArray)(hl:N.length≤1000000000)(x:ByteArray)(base:Nat)(v:Value)(w:World)(hown:w.ownsRow base 9 1 v N.length (N.map .string)):
 Calls Tryz.prog 127 #[v,.string x] w fun e w'=>e= .returned (.bool (decide (x∈N)))∧w'=w:=by
 obtain⟨va,vc,rfl,-⟩:=qC hown
 by_cases h0:0<N.length
 ·obtain⟨g,cg,hv,-,-⟩:=hown.form h0
  simp only[Value.slice.injEq,true_and]at hv
  obtain⟨rfl,rfl⟩:=hv
  refine(Tryz.slices_Contains_string g 0 N.length vc N x w (Nat.le_refl _) (by omega) (fun j hj=>?_)).mono ?_
  ·rw[Nat.zero_add,hown.cellAt j (by omega),List.getElem?_map,List.getElem?_eq_getElem hj,List.getD_eq_getElem?_getD,List.getElem?_eq_getElem hj]
   rfl
  ·rintro e w' ⟨rfl,rfl⟩
   refine⟨?_,rfl⟩
   rw[List.take_length]
   congr 2
   cases hc:Lib.containsS N x
   ·rw[eq_comm,decide_eq_false_iff_not,← Lib.containsS_iff,hc];simp
   ·rw[eq_comm,decide_eq_true_eq,← Lib.containsS_iff,hc]
 ·obtain rfl:N= []:=List.eq_nil_of_length_eq_zero (by omega)
  refine(Tryz.slices_Contains_string_empty va vc x w).mono ?_
  rintro e w' ⟨rfl,rfl⟩
  exact⟨by simp,rfl⟩
theorem names_there {qf:ByteArray}{L:List Rec}(hva:zn.Valid qf L){N:List ByteArray}(hN:Xf qf L N){n:ByteArray}(hw:qU n qf=true):decide (qm n∈N)=zn.yX L n:=by
 have hc:=(Ko hw).1
 obtain⟨y,hy⟩:=zT hc
 obtain⟨a,ha⟩:=zT hva.ap
 have h1:=((QZ hy ha).1 hw).1
 have hcn:qJ qf≤qJ n:=by rw[jN ha,jN hy];omega
 have h2:=zn.there_iff (fun r hr=>⟨(hva.each r hr).1,(hva.each r hr).2.2⟩) hc hcn
 have h3:qm n∈N↔zn.yX L n=true:=by
  rw[hN.2.1,zn.rthere_iff,← h2]
  unfold zn.thereB
  rw[decide_eq_true_eq,zn.KT]
 cases hr:zn.yX L n
 ·rw[decide_eq_false_iff_not,h3,hr];simp
 ·rw[decide_eq_true_eq,h3,hr]
theorem there_any (top z:Nat)(qf:ByteArray)(L:List Rec)(hva:zn.Valid qf L)(n:ByteArray)(hw:qU n qf=true)(w:World)(hz:xu w top z qf L):
 Calls Tryz.prog 72 #[.pointer (some ⟨z,0,none⟩),.string n] w fun e w'=>e= .returned (.bool (zn.yX L n))∧Below w.heap.size w w':=by
 have HN:=Lib.hid (names_any top z qf L hz.small hz.named w hz.v)
 have HVA:=Lib.hid hva;have HW:=Lib.hid hw
 have HZS:=Lib.hid hz.small
 clear hz hva hw
 go_enter Tryz.func72,Tryz.ntmps72
 go_wp2_with fail
 refine HN.out.mono ?_
 rintro e w1 ⟨N,hN,v,rfl,hB1,hown⟩
 have HB1:=Lib.hid hB1;have HOWN:=Lib.hid hown;have HNN:=Lib.hid hN
 obtain⟨va,vc,rfl,-⟩:=qC hown
 clear hB1 hown hN
 go_wp2_with fail
 refine(je n w1).mono ?_
 rintro e w2 ⟨rfl,hB2⟩
 have HO2:=Lib.hid (ownsRow_below HOWN.out hB2)
 have HB2:=Lib.hid (HB1.out.trans (hB2.mono HB1.out.size))
 clear hB2
 have HR:=Lib.hid (names_there HVA.out HNN.out HW.out)
 have hl:N.length≤1000000000:=by
  have h1:=names_len HZS.out HVA.out HNN.out
  omega
 go_wp2_with fail
 refine(contains_any N hl (qm n) _ _ w2 HO2.out).mono ?_
 rintro e w3 ⟨rfl,rfl⟩
 rw[HR.out]
 go_wp2_with fail
 go_ret
 exact⟨rfl,HB2.out⟩
end Go.Proofs.YtdjjemajfphjaaaGreat
namespace Go.Proofs.YtdjjemajfphjaaaGreat
open Go.RowKit Go.Shelf Go.WideMaps nm od
namespace up
open zn (qD zh zf qW yX)
section
variable {qf:ByteArray}{L:List Rec}{x:Rec}
theorem wdom_other {l:List Rec}(h:x.cls≠1):JH (l ++ [x])=JH l:=by
 unfold JH;rw[QB,if_neg (by simp[XY,h])]
theorem wset_other {l:List Rec}(h:x.cls≠1)(κ:Key):JU (l ++ [x]) κ=JU l κ:=by
 unfold JU;rw[QB,if_neg (by simp[XY,h])]
theorem wdom_in {l:List Rec}(h:x.cls=1):JH (l ++ [x])=jA (JH l) (zh x):=by
 unfold JH;rw[QB,if_pos (by simp[XY,h])]
theorem wset_in {l:List Rec}(h:x.cls=1)(κ:Key):JU (l ++ [x]) κ=if κ=zh x then jA (JU l κ) (zf x) else JU l κ:=by
 unfold JU;rw[QB]
 by_cases hk:κ=zh x
 ·rw[if_pos hk,if_pos (by simp[XY,h,hk])]
 ·rw[if_neg hk,if_neg (by simp[XY,h];exact fun e=>hk e.symm)]
theorem wset_none {l:List Rec}{κ:Key}(h:κ∉JH l):JU l κ= []:=by
 apply List.eq_nil_iff_forall_not_mem.2
 intro f hf
 obtain⟨y,hy,h1,-⟩:=(kW _ _).1 hf
 simp only[Bool.and_eq_true,decide_eq_true_eq]at h1
 exact h ((kW _ _).2 ⟨y,hy,h1.1,h1.2⟩)
end
end up
def jX (w:World)(base W:Nat)(D:List Key)(S:Key→List (ByteArray×Int×ByteArray)):Prop:=
 ∃mb:Key→Nat,base≤W∧yT xk uR w W D (fun κ=>.map (some (mb κ)))∧(∀κ∈D,base≤mb κ∧mb κ≠W∧yT kC jF w (mb κ) (S κ) (fun _=>.int .i64 1))∧∀κ1∈D,∀κ2∈D,κ1≠κ2→mb κ1≠mb κ2
def xH (w:World)(base W:Nat)(l:List Rec):Prop:=jX w base W (up.JH l) (up.JU l)
section
variable {w w':World}{base W:Nat}{D:List Key}{S:Key→List (ByteArray×Int×ByteArray)}
theorem jX.lt (h:jX w base W D S):W<w.heap.size:=by obtain⟨_,_,h,_⟩:=h;exact h.lt
theorem jX.kI (h:jX w base W D S):base≤W:=by obtain⟨_,h,_⟩:=h;exact h
theorem jX.keep (h:jX w base W D S)(hk:∀b,b<w.heap.size→w'.heap[b]? =w.heap[b]?):jX w' base W D S:=by
 obtain⟨mb,h0,h1,h2,h3⟩:=h
 exact⟨mb,h0,h1.keep fun o ho=>(hk W h1.lt).trans ho,fun κ hκ=>⟨(h2 κ hκ).1,(h2 κ hκ).2.1,(h2 κ hκ).2.2.keep fun o ho=>(hk _ (h2 κ hκ).2.2.lt).trans ho⟩,h3⟩
theorem jX.below (h:jX w base W D S)(hb:Below w.heap.size w w'):jX w' base W D S:=h.keep hb.block
theorem jX.congr {S':Key→List (ByteArray×Int×ByteArray)}(h:jX w base W D S)(hs:∀κ∈D,S κ=S' κ):jX w base W D S':=by
 obtain⟨mb,h0,h1,h2,h3⟩:=h
 exact⟨mb,h0,h1,fun κ hκ=>by rw[← hs κ hκ];exact h2 κ hκ,h3⟩
theorem jX.made (w:World)(S:Key→List (ByteArray×Int×ByteArray))(hb:base≤w.heap.size):jX (w.alloc (.map #[] 0)) base w.heap.size [] S:=
 ⟨fun _=>0,hb,yT.made w _ _ _,by simp,by simp⟩
theorem JS (w:World):(zeroValue 69).run Tryz.prog w= .ok (.map none) w:=by kernel_rfl
theorem want_look_no (h:jX w base W D S){κ:Key}(hk:uR κ)(hn:κ∉D):
 (Instr.lookup 65 (.map (some W)) (xk κ) false).run Tryz.prog w= .ok (.map none) w:=by
 obtain⟨mb,h0,h1,h2,h3⟩:=h
 rw[uK placeE Tryz.underlying65 JS h1 hk,if_neg hn]
theorem want_new (h:jX w base W D S){κ:Key}(hk:uR κ)(hn:κ∉D)(hs:S κ= [])(hb:base≤w.heap.size):
 ∃w2,(Instr.mapUpdate 65 (.map (some W)) (xk κ) (.map (some w.heap.size))).run Tryz.prog (w.alloc (.map #[] 0))= .ok () w2∧(w.alloc (.map #[] 0)).grownBy w2 (some W)∧jX w2 base W (jA D κ) S:=by
 obtain⟨mb,h0,h1,h2,h3⟩:=h
 have hB:Below w.heap.size w (w.alloc (.map #[] 0)):=(Below.refl _ w).alloc (Nat.le_refl _) _
 have h1':yT xk uR (w.alloc (.map #[] 0)) W D (fun κ=>.map (some (mb κ))):=h1.below hB h1.lt
 obtain⟨w2,g1,g2,_,g3⟩:=xX placeE Tryz.underlying65 h1' hk (.map (some w.heap.size))
 have hWs:W<w.heap.size:=h1.lt
 refine⟨w2,g1,g2,fun κ'=>if κ'=κ then w.heap.size else mb κ',h0,?_,?_,?_⟩
 ·refine g3.congr fun κ' _=>?_
  unfold QD
  by_cases e:κ'=κ
  ·simp[e]
  ·simp[e]
 ·intro κ' hκ'
  by_cases e:κ'=κ
  ·subst e
   simp only[if_true]
   refine⟨hb,by omega,?_⟩
   rw[hs]
   exact(yT.made w kC jF _).keep fun o ho=>(g2.block w.heap.size (by simp) (by simp;omega)).trans ho
  ·simp only[if_neg e]
   have hm:κ'∈D:=by
    rcases(up.jC).1 hκ' with h | h
    ·exact h
    ·exact absurd h e
   obtain⟨q1,q2,q3⟩:=h2 κ' hm
   exact⟨q1,q2,q3.keep fun o ho=>(g2.block (mb κ') (Nat.lt_of_lt_of_le q3.lt hB.size) (by simpa using q2)).trans ((hB.block _ q3.lt).trans ho)⟩
 ·have hD:∀κ',κ'∈jA D κ→κ'≠κ→κ'∈D:=fun κ' h e=>by
   rcases(up.jC).1 h with h | h
   ·exact h
   ·exact absurd h e
  intro κ1 m1 κ2 m2 hne
  by_cases e1:κ1=κ
  ·have e2:κ2≠κ:=fun e=>hne (e1.trans e.symm)
   simp only[if_pos e1,if_neg e2]
   have:=(h2 κ2 (hD κ2 m2 e2)).2.2.lt
   omega
  ·by_cases e2:κ2=κ
   ·simp only[if_neg e1,if_pos e2]
    have:=(h2 κ1 (hD κ1 m1 e1)).2.2.lt
    omega
   ·simp only[if_neg e1,if_neg e2]
    exact h3 κ1 (hD κ1 m1 e1) κ2 (hD κ2 m2 e2) hne
theorem Xi (h:jX w base W D S){κ:Key}(hkk:uR κ)(hm:κ∈D):∃m,base≤m∧m<w.heap.size∧(∃es c,w.heap[m]? =some (.map es c))∧
 (∀X,Below w.heap.size w X→(Instr.lookup 65 (.map (some W)) (xk κ) false).run Tryz.prog X= .ok (.map (some m)) X)∧
 ∀X,Below w.heap.size w X→∀f,jF f→∃w2,(Instr.mapUpdate 69 (.map (some m)) (kC f) (.int .i64 1)).run Tryz.prog X= .ok () w2∧X.grownBy w2 (some m)∧
  (Instr.lookup 65 (.map (some W)) (xk κ) false).run Tryz.prog w2= .ok (.map (some m)) w2∧jX w2 base W D (fun κ'=>if κ'=κ then jA (S κ') f else S κ'):=by
 obtain⟨mb,h0,h1,h2,h3⟩:=h
 obtain⟨q1,q2,q3⟩:=h2 κ hm
 refine⟨mb κ,q1,q3.lt,q3.vS,fun X hX=>?_,fun X hX f hf=>?_⟩
 ·rw[uK placeE Tryz.underlying65 JS (h1.below hX h1.lt) hkk,if_pos hm]
 ·obtain⟨w2,g1,g2,_,g3⟩:=xX likeE Tryz.underlying69 (q3.below hX q3.lt) hf (.int .i64 1)
  have hk:∀b,b<w.heap.size→b≠mb κ→w2.heap[b]? =w.heap[b]?:=fun b hb hne=>(g2.block b (Nat.lt_of_lt_of_le hb hX.size) (by simpa using hne)).trans (hX.block b hb)
  have h1':yT xk uR w2 W D (fun κ=>.map (some (mb κ))):=h1.keep fun o ho=>(hk W h1.lt (Ne.symm q2)).trans ho
  refine⟨w2,g1,g2,by rw[uK placeE Tryz.underlying65 JS h1' hkk,if_pos hm],mb,h0,h1',fun κ' hκ'=>?_,h3⟩
  by_cases e:κ'=κ
  ·subst e
   refine⟨q1,q2,?_⟩
   simp only[if_true]
   refine g3.congr fun f' _=>?_
   unfold QD
   split <;> rfl
  ·simp only[if_neg e]
   obtain⟨r1,r2,r3⟩:=h2 κ' hκ'
   exact⟨r1,r2,r3.keep fun o ho=>(hk _ r3.lt (h3 κ' hκ' κ hm e)).trans ho⟩
end
theorem Zx {X:World}{b:Nat}{u0 u1:Value}{t:TypeId}(h:X.heap[b]? =some (.cells #[u0,u1] t (0,0))):
 X.cell? ⟨b,0,none⟩=some u0∧X.cell? ⟨b,1,none⟩=some u1∧X.frozen? ⟨b,0,none⟩=false∧X.frozen? ⟨b,1,none⟩=false:=
 ⟨by rw[qg h];rfl,by rw[qg h];rfl,qE h 0,qE h 1⟩
theorem VG {w:World}{a:Addr}{v:Value}{m:Nat}(hc:w.cell? a=some v)(hm:∃es c,w.heap[m]? =some (.map es c)):a.block≠m:=by
 rintro rfl
 obtain⟨es,c,h⟩:=hm
 simp[World.cell?,h]at hc
def CondPost (qf:ByteArray)(L l:List Rec)(x:Rec)(base W:Nat)(w:World)(e:Ending)(w':World):Prop:=
 ((up.zP qf L x=0∧e= .returned (.tuple #[])∧xH w' base W (l ++ [x]))∨(up.zP qf L x≠0∧e= .panicked (thrown (up.zP qf L x))))∧Below base w w'
end Go.Proofs.YtdjjemajfphjaaaGreat
