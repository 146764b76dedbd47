import Derived.Test.YtdjjemajfphjaaaGreatQMapF
import Derived.Test.YtdjjemajfphjaaaGreatQZoneA
import Derived.Test.YtdjjemajfphjaaaGreatQNameE
import Derived.Deep.AppendLies
import Derived.Lib.OwnKind
set_option maxRecDepth 100000
set_option maxHeartbeats 1000000
namespace Go.Proofs.YtdjjemajfphjaaaGreat
open Go.RowKit Go.WideMaps Go.WideElems
theorem laidOut:laidOutB Tryz.prog=true:=by kernel_rfl
theorem row_key:(102:TypeId)<Tryz.prog.types.size:=of_decide_eq_true (by kernel_rfl)
theorem row_full:(141:TypeId)<Tryz.prog.types.size:=of_decide_eq_true (by kernel_rfl)
theorem wide_key:(match Tryz.prog.underlying 102 with | some (.array _ _) | some (.struct _)=>true | _=>false)=true:=by kernel_rfl
theorem wide_full:(match Tryz.prog.underlying 141 with | some (.array _ _) | some (.struct _)=>true | _=>false)=true:=by kernel_rfl
theorem law_key:KeyLaw Tryz.prog 102:=deep_law_laid laidOut (m:=2) (by omega) row_key (by kernel_rfl) wide_key
theorem law_full:KeyLaw Tryz.prog 141:=deep_law_laid laidOut (m:=3) (by omega) row_full (by kernel_rfl) wide_full
@[reducible] def xk (a:ByteArray×Int):Value:=.agg #[.string a.1,.int .i64 a.2]
@[reducible] def kC (a:ByteArray×Int×ByteArray):Value:=.agg #[.string a.1,.int .i64 a.2.1,.string a.2.2]
def uR (a:ByteArray×Int):Prop:=a.1.size≤maxLen∧(Lit.int .i64 a.2).wf=true
def jF (a:ByteArray×Int×ByteArray):Prop:=a.1.size≤maxLen∧(Lit.int .i64 a.2.1).wf=true∧a.2.2.size≤maxLen
theorem kt_key:Tryz.prog.keyType 102=true:=by kernel_rfl
theorem kt_full:Tryz.prog.keyType 141=true:=by kernel_rfl
theorem co_key:Tryz.prog.cellsOf 102=2:=by kernel_rfl
theorem co_full:Tryz.prog.cellsOf 141=3:=by kernel_rfl
theorem co_str:Tryz.prog.cellsOf 9=1:=by kernel_rfl
theorem co_int:Tryz.prog.cellsOf 3=1:=by kernel_rfl
theorem lits_key (n:Nat)(a:ByteArray×Int)(ha:uR a):∃l,Tryz.prog.keyLits (n+2) 102 [.string a.1,.int .i64 a.2]=some l:=by
 obtain⟨k1,k2⟩:=ha
 simp[Program.keyLits,Tryz.underlying102,Tryz.underlying9,Tryz.underlying3,co_key,co_str,co_int,k1,k2]
theorem keyE:Um Tryz.prog 102 xk uR where
 law:=law_key
 key:=fun a ha=>by
  obtain⟨l,hl⟩:=lits_key 238 a ha
  have hf:Value.formed Tryz.prog 102 (xk a)=true:=by kernel_rfl
  have hs:Tryz.prog.types.size=239:=by kernel_rfl
  refine⟨.string (keyBytes l),?_⟩
  unfold keyOf
  rw[Tryz.underlying102]
  simp only[kt_key,hf,Bool.and_true,if_true,hs]
  rw[show(xk a).cells.toList= [.string a.1,.int .i64 a.2] from rfl,hl]
  rfl
 inj:=fun a b h=>by
  obtain⟨a1,a2⟩:=a
  obtain⟨b1,b2⟩:=b
  simp at h
  rw[h.1,h.2]
theorem lits_full (n:Nat)(a:ByteArray×Int×ByteArray)(ha:jF a):∃l,Tryz.prog.keyLits (n+3) 141 [.string a.1,.int .i64 a.2.1,.string a.2.2]=some l:=by
 obtain⟨k1,k2,k3⟩:=ha
 simp[Program.keyLits,Tryz.underlying141,Tryz.underlying102,Tryz.underlying9,Tryz.underlying3,co_full,co_key,co_str,co_int,k1,k2,k3]
 rw[if_pos]
 ·exact⟨_,rfl⟩
 ·intro i hi
  match i,hi with
  | 0,_=>simp
  | 1,_=>simp
theorem fullE:Um Tryz.prog 141 kC jF where
 law:=law_full
 key:=fun a ha=>by
  obtain⟨l,hl⟩:=lits_full 237 a ha
  have hf:Value.formed Tryz.prog 141 (kC a)=true:=by kernel_rfl
  have hs:Tryz.prog.types.size=239:=by kernel_rfl
  refine⟨.string (keyBytes l),?_⟩
  unfold keyOf
  rw[Tryz.underlying141]
  simp only[kt_full,hf,Bool.and_true,if_true,hs]
  rw[show(kC a).cells.toList= [.string a.1,.int .i64 a.2.1,.string a.2.2] from rfl,hl]
  rfl
 inj:=fun a b h=>by
  obtain⟨a1,a2,a3⟩:=a
  obtain⟨b1,b2,b3⟩:=b
  simp at h
  rw[h.1,h.2.1,h.2.2]
def vM (a:ByteArray):Prop:=a.size≤maxLen
theorem strE:Um Tryz.prog 9 Value.string vM where
 law:=string_law Tryz.underlying9
 key:=fun _ ha=>⟨_,keyOf_string_mk Tryz.underlying9 ha⟩
 inj:=fun a b h=>by simpa using h
end Go.Proofs.YtdjjemajfphjaaaGreat
namespace Go.Proofs.YtdjjemajfphjaaaGreat
open Go.RowKit Go.Shelf nm
theorem qj {P:Program}{id:Nat}{Q:Exit→Act→World→Prop}{a:Act}{w:World}{l:List Oper}(hm:P.follows .mixedOrders=true)(hB:Region.lexB .any l.toArray=true)
 (h:wpQuiet P l.toArray (fun W=>∃p,W=gw w p) (fun a'=>∀W,(∃p,W=gw w p)→Q .normal a' W) l a):(Code.region id l.toArray true).wp P Q a w:=
 wp_region_quiet (C:=fun W=>∃p,W=gw w p) hm hB (uL w) (by simpa using h)
def kF (w:World)(z:Nat)(qf:ByteArray)(rv sv tv:Value):Prop:=w.heap[z]? =some (.cells #[.string qf,rv,sv,tv] 94 (0,0))
namespace zn
def zl (bad:Nat→Bool)(n:Nat):Option Nat:=(List.range n).find? bad
theorem VC {bad:Nat→Bool}{n k:Nat}(hk:k<n)(h:bad k=true)(hb:∀j,j<k→bad j=false):zl bad n=some k:=by
 unfold zl
 rw[List.find?_eq_some_iff_getElem]
 exact⟨h,k,by simpa using hk,by simp,fun j hj=>by simp[hb j hj]⟩
theorem vI {bad:Nat→Bool}{n:Nat}(h:∀j,j<n→bad j=false):zl bad n=none:=by
 unfold zl
 rw[List.find?_eq_none]
 intro x hx
 rw[h x (List.mem_range.1 hx)]
 simp
def jV (r:Rec):Bool:=!(ql r.owner && decide (r.cls=1) && decide (0≤r.ttl) && decide (r.ttl≤2147483647) && decide (dt.yo r.typ r.data=0))
def atB (l:List Rec)(f:Rec→Bool)(k:Nat):Bool:=match l[k]? with
 | some r=>f r
 | none=>false
theorem uN {l:List Rec}{f:Rec→Bool}{k:Nat}(h:k<l.length):atB l f k=f l[k]:=by
 unfold atB
 rw[List.getElem?_eq_getElem h]
def ug (qf:ByteArray)(l:List Rec):Option (Int×Int):=
 match zl (atB l jV) l.length with
 | some k=>some (k,8)
 | none=>match zl (atB l fun r=>!qU r.owner qf) l.length with
   | some k=>some (k,5)
   | none=>none
end zn
def Thrown (o:Option (Int×Int))(e:Ending):Prop:=match o with
 | some (k,c)=>e= .panicked [{ v:=vz k c,recovered:=false}]
 | none=>e= .returned (.tuple #[])
theorem uA {n:Nat}{code:Int}{bad:Nat→Bool}{Inv:Nat→World→Prop}{e:Ending}{w':World}(h:Jl n code bad Inv e w'):
 (∃k:Nat,zn.zl bad n=some k∧k<n∧e= .panicked [{ v:=vz k code,recovered:=false}]∧Inv (k+1) w')∨(zn.zl bad n=none∧(∀j,j<n→bad j=false)∧e= .returned (.tuple #[])∧Inv n w'):=by
 rcases h with⟨k,h1,h2,h3,h4,h5⟩|⟨h1,h2,h3⟩
 ·exact .inl ⟨k,zn.VC h1 h2 h3,h1,h4,h5⟩
 ·exact .inr ⟨zn.vI h1,h1,h2,h3⟩
theorem plain1_any (k:Int)(r:Rec)(w:World):Calls Tryz.prog 105 #[.int .i64 k,zB r] w fun e w'=>e= .returned (.bool (zn.jV r))∧Below w.heap.size w w':=by
 have hB:=Lib.hid ((Below.refl _ w).alloc (Nat.le_refl _) (.cells (recC r).toArray 51))
 cases hc:ql r.owner
 ·have hr:zn.jV r=true:=by unfold zn.jV;rw[hc];rfl
  have HR:=Lib.hid hr;have HC:=Lib.hid hc
  clear hr hc
  go_enter Tryz.func105,Tryz.ntmps105
  go_wp2_with fail
  refine(zz _ _).mono ?_
  rintro e w1 ⟨rfl,hB1⟩
  rw[HC.out,Yx]
  go_wp2_with fail
  go_ret
  exact⟨qA HR.out.symm,hB.out.trans (hB1.mono hB.out.size)⟩
 ·by_cases h1:r.cls=1
  ·have b1:(r.cls != 1)=false:=by rw[h1];rfl
   by_cases h2:0≤r.ttl
   ·by_cases h3:r.ttl≤2147483647
    ·have hr:zn.jV r= !decide (dt.yo r.typ r.data=0):=by unfold zn.jV;rw[hc,decide_eq_true h1,decide_eq_true h2,decide_eq_true h3];rfl
     by_cases h4:dt.yo r.typ r.data=0
     ·rw[decide_eq_true h4]at hr
      have HR:=Lib.hid hr;have HC:=Lib.hid hc;have H1:=Lib.hid h1;have H4:=Lib.hid h4
      clear hr hc h1 h4
      go_enter Tryz.func105,Tryz.ntmps105
      go_wp2_with fail
      refine(zz _ _).mono ?_
      rintro e w1 ⟨rfl,hB1⟩
      rw[HC.out,vQ]
      have hb2:=hB.out.trans (hB1.mono hB.out.size)
      have c1:=(hB1.cell (p:=⟨w.heap.size,1,none⟩) (by simp)).trans (qV w r 51 1 _ rfl)
      have c2:=(hB1.cell (p:=⟨w.heap.size,2,none⟩) (by simp)).trans (qV w r 51 2 _ rfl)
      have c3:=(hB1.cell (p:=⟨w.heap.size,3,none⟩) (by simp)).trans (qV w r 51 3 _ rfl)
      have c4:=(hB1.cell (p:=⟨w.heap.size,4,none⟩) (by simp)).trans (qV w r 51 4 _ rfl)
      go_wp2_with fail
      refine(kQ _ _ _).mono ?_
      rintro e w2 ⟨rfl,hB2⟩
      rw[H4.out]
      go_wp2_with fail
      go_ret
      exact⟨qA (by rw[HR.out];simp;omega),hb2.trans (hB2.mono hb2.size)⟩
     ·rw[decide_eq_false h4]at hr
      have b4:(dt.yo r.typ r.data == 0)=false:=by rw[beq_eq_false_iff_ne];exact h4
      have b5:(dt.yo r.typ r.data != 0)=true:=by rw[bne_iff_ne];exact h4
      have HR:=Lib.hid hr;have HC:=Lib.hid hc;have H1:=Lib.hid h1
      clear hr hc h1 h4
      go_enter Tryz.func105,Tryz.ntmps105
      go_wp2_with fail
      refine(zz _ _).mono ?_
      rintro e w1 ⟨rfl,hB1⟩
      rw[HC.out,vQ]
      have hb2:=hB.out.trans (hB1.mono hB.out.size)
      have c1:=(hB1.cell (p:=⟨w.heap.size,1,none⟩) (by simp)).trans (qV w r 51 1 _ rfl)
      have c2:=(hB1.cell (p:=⟨w.heap.size,2,none⟩) (by simp)).trans (qV w r 51 2 _ rfl)
      have c3:=(hB1.cell (p:=⟨w.heap.size,3,none⟩) (by simp)).trans (qV w r 51 3 _ rfl)
      have c4:=(hB1.cell (p:=⟨w.heap.size,4,none⟩) (by simp)).trans (qV w r 51 4 _ rfl)
      go_wp2_with fail
      refine(kQ _ _ _).mono ?_
      rintro e w2 ⟨rfl,hB2⟩
      go_wp2_with fail
      go_ret
      exact⟨qA (by rw[HR.out];rfl),hb2.trans (hB2.mono hb2.size)⟩
    ·have hr:zn.jV r=true:=by unfold zn.jV;rw[decide_eq_false h3];simp
     have HR:=Lib.hid hr;have HC:=Lib.hid hc;have H1:=Lib.hid h1
     clear hr hc h1
     go_enter Tryz.func105,Tryz.ntmps105
     go_wp2_with fail
     refine(zz _ _).mono ?_
     rintro e w1 ⟨rfl,hB1⟩
     rw[HC.out,vQ]
     have c2:=(hB1.cell (p:=⟨w.heap.size,2,none⟩) (by simp)).trans (qV w r 51 2 _ rfl)
     have c3:=(hB1.cell (p:=⟨w.heap.size,3,none⟩) (by simp)).trans (qV w r 51 3 _ rfl)
     go_wp2_with fail
     go_ret
     exact⟨qA HR.out.symm,hB.out.trans (hB1.mono hB.out.size)⟩
   ·have hr:zn.jV r=true:=by unfold zn.jV;rw[decide_eq_false h2];simp
    have HR:=Lib.hid hr;have HC:=Lib.hid hc;have H1:=Lib.hid h1
    clear hr hc h1
    go_enter Tryz.func105,Tryz.ntmps105
    go_wp2_with fail
    refine(zz _ _).mono ?_
    rintro e w1 ⟨rfl,hB1⟩
    rw[HC.out,vQ]
    have c2:=(hB1.cell (p:=⟨w.heap.size,2,none⟩) (by simp)).trans (qV w r 51 2 _ rfl)
    have c3:=(hB1.cell (p:=⟨w.heap.size,3,none⟩) (by simp)).trans (qV w r 51 3 _ rfl)
    go_wp2_with fail
    go_ret
    exact⟨qA HR.out.symm,hB.out.trans (hB1.mono hB.out.size)⟩
  ·have b1:(r.cls != 1)=true:=by rw[bne_iff_ne];exact h1
   have hr:zn.jV r=true:=by unfold zn.jV;rw[decide_eq_false h1];simp
   have HR:=Lib.hid hr;have HC:=Lib.hid hc
   clear hr hc h1
   go_enter Tryz.func105,Tryz.ntmps105
   go_wp2_with fail
   refine(zz _ _).mono ?_
   rintro e w1 ⟨rfl,hB1⟩
   rw[HC.out,vQ]
   have c2:=(hB1.cell (p:=⟨w.heap.size,2,none⟩) (by simp)).trans (qV w r 51 2 _ rfl)
   go_wp2_with fail
   go_ret
   exact⟨qA HR.out.symm,hB.out.trans (hB1.mono hB.out.size)⟩
theorem plain2_any (k:Int)(r:Rec)(bx z:Nat)(qf:ByteArray)(rv sv tv:Value)(w:World)(hbx:w.cell? ⟨bx,0,none⟩=some (.pointer (some ⟨z,0,none⟩)))(hz:kF w z qf rv sv tv):
 Calls Tryz.prog 106 #[.int .i64 k,zB r,.pointer (some ⟨bx,0,none⟩)] w fun e w'=>e= .returned (.bool (!qU r.owner qf))∧Below w.heap.size w w':=by
 have hB:=Lib.hid ((Below.refl _ w).alloc (Nat.le_refl _) (.cells (recC r).toArray 51))
 have e1:=qh (qV w r 51 0 _ rfl)
 have e2:=qh (qx (.cells (recC r).toArray 51) hbx)
 have hz0:w.cell? ⟨z,0,none⟩=some (.string qf):=by rw[qg hz];rfl
 have e3:=qh (qx (.cells (recC r).toArray 51) hz0)
 have HZ:=Lib.hid hz
 clear hbx hz hz0
 go_enter Tryz.func106,Tryz.ntmps106
 go_wp2_with fail
 refine qj (by kernel_rfl) (by kernel_rfl) ?_
 repeat (refine wpQuiet_step (fun K hK=>?_);go_simp;first | (refine hK _ ?_;clear hK K) | (apply Exists.intro;refine⟨fun _=>?_,hK _ ?_⟩;(first | (go_at_call 71;exact qL (JW _ _ _)));clear hK K))
 refine wpQuiet_nil ?_
 intro W hW
 have hBW:Below (w.heap.size+1) (w.alloc (.cells (recC r).toArray 51)) W:=by obtain⟨p,rfl⟩:=hW;simpa using qp (w.alloc (.cells (recC r).toArray 51)) p
 clear hW
 go_wp2_with fail
 go_ret
 exact⟨rfl,hB.out.trans (hBW.mono (by omega))⟩
theorem VX (args:Array Value)(w:World):(callFunc 105 args).run Tryz.prog w= .ok (.enter 105 args) w:=by kernel_rfl
theorem VW (args:Array Value)(w:World):(callFunc 106 args).run Tryz.prog w= .ok (.enter 106 args) w:=by kernel_rfl
theorem plain_any (qf:ByteArray)(l:List Rec)(hl:l.length≤2000)(z:Nat)(rv sv tv:Value)(w:World)(hz:kF w z qf rv sv tv)(hrv:qy w rv l):
 Calls Tryz.prog 56 #[.pointer (some ⟨z,0,none⟩)] w fun e w'=>Thrown (zn.ug qf l) e∧Below w.heap.size w w':=by
 obtain⟨w1,hw1⟩:∃W,W=w.alloc (.cells #[.pointer (some ⟨z,0,none⟩)] 26):=⟨_,rfl⟩
 have hB1:Below w.heap.size w w1:=by rw[hw1];exact(Below.refl _ w).alloc (Nat.le_refl _) _
 have hbx:w1.cell? ⟨w.heap.size,0,none⟩=some (.pointer (some ⟨z,0,none⟩)):=by rw[hw1,qg (qo rfl)];rfl
 have hs1:w1.heap.size=w.heap.size+1:=by rw[hw1];simp
 have hz1:kF w1 z qf rv sv tv:=(hB1.block z (qw hz)).trans hz
 have hr1:qy w1 rv l:=hrv.below hB1
 have hzc:w1.cell? ⟨z,1,none⟩=some rv:=by rw[qg hz1];rfl
 have hzl:=qw hz1
 have first:=Jc 105 #[] VX 8 l hl rv (zn.atB l zn.jV) (fun _ W=>Below w1.heap.size w1 W)
  (fun _ W h=>hr1.below h) (fun _ W W' h h'=>h.trans (h'.mono h.size)) (fun k hk W h=>by
   refine(plain1_any k l[k] W).mono ?_
   rintro e W' ⟨rfl,hb⟩
   exact⟨by rw[zn.uN hk],h.trans (hb.mono h.size)⟩)
 have second:=fun W0 (h0:Below w1.heap.size w1 W0)=>Jc 106 #[.pointer (some ⟨w.heap.size,0,none⟩)] VW 5 l hl rv (zn.atB l fun r=>!qU r.owner qf) (fun _ W=>Below w1.heap.size w1 W)
  (fun _ W h=>hr1.below h) (fun _ W W' h h'=>h.trans (h'.mono h.size)) (fun k hk W h=>by
   refine(plain2_any k l[k] w.heap.size z qf rv sv tv W ((h.cell (p:=⟨w.heap.size,0,none⟩) (by show w.heap.size<w1.heap.size;omega)).trans hbx) ((h.block z hzl).trans hz1)).mono ?_
   rintro e W' ⟨rfl,hb⟩
   exact⟨by rw[zn.uN hk],h.trans (hb.mono h.size)⟩) W0 h0
 have HF:=Lib.hid first;have HS:=Lib.hid second;have HW:=Lib.hid hw1
 have HZ:=Lib.hid hz;have HZ1:=Lib.hid hz1;have HR:=Lib.hid hrv;have HR1:=Lib.hid hr1
 have hzw:w.cell? ⟨z,1,none⟩=some rv:=by rw[qg hz];rfl
 have hza:=fun o=>qx (W:=w) o hzw
 clear first second hz hz1 hrv hr1 hw1
 go_enter Tryz.func56,Tryz.ntmps56
 go_wp2_with fail
 rw[← HW.out]
 clear hza hzw
 refine(HF.out w1 (Below.refl _ _)).mono ?_
 intro e w2 hp
 rcases uA hp with⟨k,hfb,hk,rfl,hB2⟩|⟨hfb,_,rfl,hB2⟩
 ·have hres:zn.ug qf l=some ((k:Int),8):=by unfold zn.ug;rw[hfb]
  have zb:=Lib.hid hres
  clear hp hfb hres
  go_wp2_with fail
  exact⟨rfl,(by rw[zb.out];rfl),hB1.trans (hB2.mono (by omega))⟩
 ·have c1:=(hB2.cell (p:=⟨w.heap.size,0,none⟩) (by show w.heap.size<w1.heap.size;omega)).trans hbx
  have c2:=(hB2.cell (p:=⟨z,1,none⟩) hzl).trans hzc
  have HFB:=Lib.hid hfb
  clear hp hfb
  go_wp2_with fail
  refine(HS.out w2 hB2).mono ?_
  intro e w3 hp
  rcases uA hp with⟨k,hfb,hk,rfl,hB3⟩|⟨hfb,_,rfl,hB3⟩
  ·have hres:zn.ug qf l=some ((k:Int),5):=by unfold zn.ug;rw[HFB.out];simp only[hfb]
   have zb:=Lib.hid hres
   clear hp hfb hres
   go_wp2_with fail
   exact⟨rfl,(by rw[zb.out];rfl),hB1.trans (hB3.mono (by omega))⟩
  ·have hres:zn.ug qf l=none:=by unfold zn.ug;rw[HFB.out];simp only[hfb]
   have zb:=Lib.hid hres
   clear hp hfb hres
   go_wp2_with fail
   go_end0
   exact⟨(by rw[zb.out];rfl),hB1.trans (hB3.mono (by omega))⟩
end Go.Proofs.YtdjjemajfphjaaaGreat
namespace Go.Proofs.YtdjjemajfphjaaaGreat
open Go.RowKit Go.WideMaps nm
abbrev Key:=ByteArray×Int
instance decMem {α:Type} [DecidableEq α] (a:α)(d:List α):Decidable (a∈d):=inferInstance
def qG (l:List Rec):List Value:=l.flatMap recC
theorem Qy (l:List Rec):(qG l).length=l.length*5:=by
 unfold qG
 induction l with
 | nil=>rfl
 | cons r l ih=>rw[List.flatMap_cons,List.length_append,ih,List.length_cons];simp;omega
theorem zq (l:List Rec)(r:Rec):qG (l ++ [r])=qG l ++ recC r:=by unfold qG;rw[List.flatMap_append];simp
theorem UW:∀(l:List Rec) (k:Nat) (hk:k<l.length) (j:Nat) (v:Value),(recC l[k])[j]? =some v→(qG l)[k*5+j]? =some v
 | r :: l,0,hk,j,v,h=>by
   have hj:j<(recC r).length:=(List.getElem?_eq_some_iff.1 h).1
   show(recC r ++ qG l)[0*5+j]? =some v
   rw[Nat.zero_mul,Nat.zero_add,List.getElem?_append_left hj]
   exact h
 | r :: l,k+1,hk,j,v,h=>by
   show(recC r ++ qG l)[(k+1)*5+j]? =some v
   rw[List.getElem?_append_right (by simp;omega)]
   have:=UW l k (by simpa using hk) j v h
   rw[← this]
   congr 1
   simp
   omega
def yz (w:World)(base sb:Nat)(dom:List Key)(F:Key→List Rec):Prop:=
 ∃val:Key→Value,yT xk uR w sb dom val∧(∀κ∈dom,w.ownsRow base 51 5 (val κ) (F κ).length (qG (F κ)))∧(∀κ∈dom,∀κ'∈dom,κ≠κ'→(val κ).ownBlock≠(val κ').ownBlock)
section
variable {w w':World}{base sb:Nat}{dom:List Key}{F F':Key→List Rec}
theorem jk {w:World}{base:Nat}{e:TypeId}{size:Nat}{v:Value}{n:Nat}{xs:List Value}(h:w.ownsRow base e size v n xs){b:Nat}{es:Array MapEntry}{c:Nat}(hb:w.heap[b]? =some (.map es c)):v.ownBlock≠some b:=fun e=>by
 obtain⟨c',fz,hc⟩:=Lib.ownsRow_kind h b e
 rw[hb]at hc
 cases hc
theorem qi {w w':World}{base:Nat}{e:TypeId}{size:Nat}{v:Value}{n:Nat}{xs:List Value}(h:w.ownsRow base e size v n xs)(hk:∀b,v.ownBlock=some b→w'.heap[b]? =w.heap[b]?):w'.ownsRow base e size v n xs:=by
 refine⟨h.1,?_⟩
 rcases h.2 with hn | ⟨g,cap,cur,rfl,hb,hg,rest⟩
 ·exact .inl hn
 ·exact .inr ⟨g,cap,cur,rfl,hb,(hk g rfl).trans hg,rest⟩
theorem yT.vS {α:Type}{qZ:α→Value}{Kok:α→Prop}{w:World}{b:Nat}{dom:List α}{val:α→Value}(h:yT qZ Kok w b dom val):∃es c,w.heap[b]? =some (.map es c):=by
 obtain⟨_,_,es,c,h1,_⟩:=h
 exact⟨es,c,h1⟩
theorem yT.not_row {α:Type}{qZ:α→Value}{Kok:α→Prop}{w:World}{b:Nat}{dom:List α}{val:α→Value}(h:yT qZ Kok w b dom val){base:Nat}{e:TypeId}{size:Nat}{v:Value}{n:Nat}{xs:List Value}(hr:w.ownsRow base e size v n xs):v.ownBlock≠some b:=by
 obtain⟨es,c,hb⟩:=h.vS
 exact jk hr hb
theorem yz.keep (h:yz w base sb dom F)(hk:∀b,base≤b∨b=sb→b<w.heap.size→w'.heap[b]? =w.heap[b]?):yz w' base sb dom F:=by
 obtain⟨val,h1,h2,h3⟩:=h
 refine⟨val,h1.keep fun o ho=>(hk sb (.inr rfl) (qw ho)).trans ho,fun κ hκ=>?_,h3⟩
 exact qi (h2 κ hκ) fun b hb=>hk b (.inl ((h2 κ hκ).lt b hb).1) ((h2 κ hκ).lt b hb).2
theorem yz.alloc (h:yz w base sb dom F)(o:Obj):yz (w.alloc o) base sb dom F:=h.keep fun b _ hb=>Below.heap_alloc w o b hb
theorem yz.below (h:yz w base sb dom F)(hb:Below w.heap.size w w'):yz w' base sb dom F:=h.keep fun b _ hlt=>hb.block b hlt
theorem yz.lt (h:yz w base sb dom F):sb<w.heap.size:=by obtain⟨_,h1,_⟩:=h;exact h1.lt
theorem yz.congr (h:yz w base sb dom F)(hF:∀κ∈dom,F κ=F' κ):yz w base sb dom F':=by
 obtain⟨val,h1,h2,h3⟩:=h
 exact⟨val,h1,fun κ hκ=>by rw[← hF κ hκ];exact h2 κ hκ,h3⟩
theorem yz.made (w:World)(base:Nat)(F:Key→List Rec):yz (w.alloc (.map #[] 0)) base w.heap.size [] F:=
 ⟨fun _=>.slice none 0 0,yT.made w xk uR _,fun κ h=>by simp at h,fun κ h=>by simp at h⟩
theorem Uy (w:World):(zeroValue 22).run Tryz.prog w= .ok (.slice none 0 0) w:=by kernel_rfl
theorem xQ (w:World):(zeroValue 3).run Tryz.prog w= .ok (.int .i64 0) w:=by kernel_rfl
theorem sets_entry {wh:World}(h:yz wh base sb dom F)(hk:∀b,b<wh.heap.size→w.heap[b]? =wh.heap[b]?){κ:Key}(hκ:uR κ)(r:Rec):
 ∃(v:Value) (n:Nat) (old:List Rec) (st:Nat) (w1:World),(Instr.mapEntry 91 (.map (some sb)) (xk κ)).run Tryz.prog w= .ok (.tuple #[v,goInt st]) w1∧w.grownBy w1 (some sb)∧
  w1.ownsRow base 51 5 v n (qG old)∧old=(if κ∈dom then F κ else [])∧n=old.length∧(∀b,v.ownBlock=some b→base≤b∧b<wh.heap.size∧b≠sb)∧sb<wh.heap.size∧n≤((F κ).length)∧
  ∀g cap w2,w2.ownsRow base 51 5 (.slice (some ⟨g,0,none⟩) (n+1) cap) (n+1) (qG old ++ recC r)→w1.grownBy w2 v.ownBlock→(v.ownBlock=some g∨g=w1.heap.size)→
   ∃w3,(Instr.entryStore 91 (.map (some sb)) (.int .i64 (st:Int)) (.slice (some ⟨g,0,none⟩) (n+1) cap)).run Tryz.prog w2= .ok () w3∧w2.grownBy w3 (some sb)∧
    yz w3 base sb (jA dom κ) (fun κ'=>if κ'=κ then old ++ [r] else F κ'):=by
 obtain⟨val,hM0,hR0,hD⟩:=h
 have hM:yT xk uR w sb dom val:=hM0.keep fun o ho=>(hk sb (qw ho)).trans ho
 have hR:∀κ∈dom,w.ownsRow base 51 5 (val κ) (F κ).length (qG (F κ)):=fun κ hκ=>qi (hR0 κ hκ) fun b hb=>hk b ((hR0 κ hκ).lt b hb).2
 obtain⟨st,w1,hrun,hg1,_,hM1,hst⟩:=J5 keyE Tryz.underlying91 Uy hM hκ
 obtain⟨es,c,hsb⟩:=hM.vS
 have hkeep1:∀κ'∈dom,w1.ownsRow base 51 5 (val κ') (F κ').length (qG (F κ')):=fun κ' hκ'=>(hR κ' hκ').kept hg1 (.inr (jk (hR κ' hκ') hsb))
 have hown1:w1.ownsRow base 51 5 (if κ∈dom then val κ else .slice none 0 0) (if κ∈dom then F κ else []).length (qG (if κ∈dom then F κ else [])):=by
  by_cases hd:κ∈dom
  ·rw[if_pos hd,if_pos hd];exact hkeep1 κ hd
  ·rw[if_neg hd,if_neg hd];exact World.ownsRow_nil w1 base _ 5
 have hvs:(if κ∈dom then val κ else .slice none 0 0:Value).ownBlock≠some sb:=hM1.not_row hown1
 have hvb:∀b,(if κ∈dom then val κ else .slice none 0 0:Value).ownBlock=some b→base≤b∧b<wh.heap.size∧b≠sb:=fun b hb=>by
  refine⟨(hown1.lt b hb).1,?_,fun e=>hvs (e ▸ hb)⟩
  by_cases hd:κ∈dom
  ·rw[if_pos hd]at hb;exact((hR0 κ hd).lt b hb).2
  ·rw[if_neg hd]at hb;cases hb
 have hnF:(if κ∈dom then F κ else []).length≤(F κ).length:=by split <;> simp
 refine⟨_,_,_,st,w1,hrun,hg1,hown1,rfl,rfl,hvb,hM0.lt,hnF,fun g cap w2 hown2 hgrow hat=>?_⟩
 have hs2:w2.heap[sb]? =w1.heap[sb]?:=hgrow.block sb hM1.lt (Ne.symm hvs)
 obtain⟨w3,hrun3,hg3,_,hM3⟩:=hst w2 (.slice (some ⟨g,0,none⟩) ((if κ∈dom then F κ else []).length+1) cap) hs2
 obtain⟨es1,c1,hsb1⟩:=hM1.vS
 have hgs:g≠sb:=fun e=>by
  subst e
  exact jk hown2 (hs2.trans hsb1) rfl
 have KZ:∀κ'∈dom,κ'≠κ→(val κ').ownBlock≠some g∧((val κ').ownBlock=none∨(val κ').ownBlock≠(if κ∈dom then val κ else .slice none 0 0:Value).ownBlock):=fun κ' hκ' hne=>by
  by_cases hd:κ∈dom
  ·rw[if_pos hd]at hat ⊢
   have h1:=hD κ' hκ' κ hd hne
   refine⟨?_,.inr h1⟩
   rcases hat with hat | hat
   ·rw[← hat];exact h1
   ·intro e
    have:=((hkeep1 κ' hκ').lt g e).2
    omega
  ·rw[if_neg hd]at hat ⊢
   rcases hat with hat | hat
   ·cases hat
   ·refine⟨fun e=>?_,?_⟩
    ·have:=((hkeep1 κ' hκ').lt g e).2
     omega
    ·cases hv:(val κ').ownBlock with
     | none=>exact .inl rfl
     | some b=>exact .inr (by simp[Value.ownBlock])
 have hmem:∀κ'∈jA dom κ,κ'≠κ→κ'∈dom:=fun κ' h hne=>by
  unfold jA at h
  split at h
  ·exact h
  ·rcases List.mem_append.1 h with h | h
   ·exact h
   ·exact absurd (List.mem_singleton.1 h) hne
 refine⟨w3,hrun3,hg3,_,hM3,fun κ' hκ'=>?_,fun κ1 h1 κ2 h2 hne=>?_⟩
 ·by_cases he:κ'=κ
  ·subst he
   simp only[if_pos,QD]
   rw[List.length_append,zq]
   exact hown2.kept hg3 (.inr (by simpa[Value.ownBlock] using hgs))
  ·simp only[if_neg he,QD]
   have hd:=hmem κ' hκ' he
   have h2:=(hkeep1 κ' hd).kept hgrow ((KZ κ' hd he).2)
   exact h2.kept hg3 (.inr (hM1.not_row (hkeep1 κ' hd)))
 ·unfold QD
  by_cases e1:κ1=κ
  ·rw[if_pos e1]
   have e2:κ2≠κ:=fun e=>hne (e1.trans e.symm)
   rw[if_neg e2]
   exact fun e=>(KZ κ2 (hmem κ2 h2 e2) e2).1 e.symm
  ·rw[if_neg e1]
   by_cases e2:κ2=κ
   ·rw[if_pos e2]
    exact(KZ κ1 (hmem κ1 h1 e1) e1).1
   ·rw[if_neg e2]
    exact hD κ1 (hmem κ1 h1 e1) κ2 (hmem κ2 h2 e2) hne
end
theorem yz.grownMap {w w':World}{base sb tb:Nat}{dom:List Key}{F:Key→List Rec}(h:yz w base sb dom F)(hg:w.grownBy w' (some tb))(ht:∃es c,w.heap[tb]? =some (.map es c))(hne:sb≠tb):yz w' base sb dom F:=by
 obtain⟨es,c,hm⟩:=ht
 obtain⟨val,h1,h2,h3⟩:=h
 refine⟨val,h1.keep fun o ho=>(hg.block sb (qw ho) (by simpa using hne)).trans ho,fun κ hκ=>?_,h3⟩
 exact(h2 κ hκ).kept hg (.inr (jk (h2 κ hκ) hm))
namespace zn
def YX (low:ByteArray)(m q:Nat):List ByteArray:=(List.range (m-q+1)).map fun i:Nat=>zL low ((m:Int)-i)
def zh (r:Rec):Key:=(qm r.owner,r.typ)
def Qk (l:List Rec):List Key:=l.foldl (fun d r=>jA d (zh r)) []
def qD (l:List Rec)(κ:Key):List Rec:=l.filter fun r=>decide (zh r=κ)
def ups (c:Nat)(low:ByteArray):List ByteArray:=(List.range ((qJ low).toNat-c+1)).map fun i:Nat=>zL low (qJ low-i)
def uU (d:List ByteArray)(l:List ByteArray):List ByteArray:=l.foldl jA d
def Zo (c:Nat)(l:List Rec):List ByteArray:=l.foldl (fun d r=>if zV r then d else uU d (ups c (qm r.owner))) []
theorem ups_part {low:ByteArray}{m:Nat}(h:qJ low=m)(c:Nat):ups c low=YX low m c:=by
 unfold ups YX
 rw[h,Int.toNat_natCast]
theorem partU_top {low:ByteArray}{m:Nat}(h:zL low m=low):YX low m m= [low]:=by
 unfold YX
 simp[h]
theorem partU_next {low:ByteArray}{m q:Nat}(h0:0<q)(h1:q≤m):YX low m (q-1)=YX low m q ++ [zL low ((q-1:Nat):Int)]:=by
 unfold YX
 rw[show m-(q-1)+1=(m-q+1)+1 from by omega,List.range_succ,List.map_append]
 congr 1
 simp only[List.map_cons,List.map_nil,List.cons.injEq,and_true]
 congr 1
 omega
theorem partU_end {low:ByteArray}{m q c:Nat}(h1:q≤m)(h2:q≤c)(h3:c≤q∨q=m):YX low m q=YX low m c:=by
 unfold YX
 rw[show m-q=m-c from by omega]
theorem insAll_app (d a:List ByteArray)(n:ByteArray):uU d (a ++ [n])=jA (uU d a) n:=by unfold uU;rw[List.foldl_append];rfl
theorem domS_app (l:List Rec)(r:Rec):Qk (l ++ [r])=jA (Qk l) (zh r):=by unfold Qk;rw[List.foldl_append];rfl
theorem domT_app (c:Nat)(l:List Rec)(r:Rec):Zo c (l ++ [r])=if zV r then Zo c l else uU (Zo c l) (ups c (qm r.owner)):=by unfold Zo;rw[List.foldl_append];rfl
theorem jC {α:Type} [DecidableEq α] {d:List α}{a b:α}:b∈jA d a↔b∈d∨b=a:=by
 unfold jA
 split
 ·rename_i h
  exact⟨.inl,fun h'=>h'.elim id (fun e=>e ▸ h)⟩
 ·rw[List.mem_append,List.mem_singleton]
theorem XM:∀{l d:List ByteArray} {b:ByteArray},b∈uU d l↔b∈d∨b∈l
 | [],d,b=>by simp[uU]
 | a :: l,d,b=>by
   show b∈uU (jA d a) l↔_
   rw[XM (l:=l),jC,List.mem_cons]
   exact⟨fun h=>by rcases h with(h | h) | h <;> simp[h],fun h=>by rcases h with h | h | h <;> simp[h]⟩
theorem mem_foldS:∀{l:List Rec} {d:List Key} {κ:Key},κ∈l.foldl (fun d r=>jA d (zh r)) d↔κ∈d∨∃r∈l,zh r=κ
 | [],d,κ=>by simp
 | r :: l,d,κ=>by
   rw[List.foldl_cons,mem_foldS (l:=l),jC]
   constructor
   ·rintro((h | h) | ⟨x,hx,e⟩)
    ·exact .inl h
    ·exact .inr ⟨r,by simp,h.symm⟩
    ·exact .inr ⟨x,by simp[hx],e⟩
   ·rintro(h | ⟨x,hx,e⟩)
    ·exact .inl (.inl h)
    ·rcases List.mem_cons.1 hx with rfl | hx
     ·exact .inl (.inr e.symm)
     ·exact .inr ⟨x,hx,e⟩
theorem XN {l:List Rec}{κ:Key}:κ∈Qk l↔∃r∈l,zh r=κ:=by
 unfold Qk
 rw[mem_foldS]
 simp
theorem mem_foldT {c:Nat}:∀{l:List Rec} {d:List ByteArray} {n:ByteArray},n∈l.foldl (fun d r=>if zV r then d else uU d (ups c (qm r.owner))) d↔n∈d∨∃r∈l,zV r=false∧n∈ups c (qm r.owner)
 | [],d,κ=>by simp
 | r :: l,d,κ=>by
   rw[List.foldl_cons,mem_foldT (l:=l)]
   cases hs:zV r
   ·simp only[Bool.false_eq_true,if_false]
    rw[XM]
    constructor
    ·rintro((h | h) | ⟨x,hx,e⟩)
     ·exact .inl h
     ·exact .inr ⟨r,by simp,hs,h⟩
     ·exact .inr ⟨x,by simp[hx],e⟩
    ·rintro(h | ⟨x,hx,e1,e2⟩)
     ·exact .inl (.inl h)
     ·rcases List.mem_cons.1 hx with rfl | hx
      ·exact .inl (.inr e2)
      ·exact .inr ⟨x,hx,e1,e2⟩
   ·simp only[if_true]
    constructor
    ·rintro(h | ⟨x,hx,e⟩)
     ·exact .inl h
     ·exact .inr ⟨x,by simp[hx],e⟩
    ·rintro(h | ⟨x,hx,e1,e2⟩)
     ·exact .inl h
     ·rcases List.mem_cons.1 hx with rfl | hx
      ·rw[hs]at e1;cases e1
      ·exact .inr ⟨x,hx,e1,e2⟩
theorem KT {c:Nat}{l:List Rec}{n:ByteArray}:n∈Zo c l↔∃r∈l,zV r=false∧n∈ups c (qm r.owner):=by
 unfold Zo
 rw[mem_foldT]
 simp
theorem rowsS_app (l:List Rec)(r:Rec)(κ:Key):qD (l ++ [r]) κ=if κ=zh r then qD l κ ++ [r] else qD l κ:=by
 unfold qD
 rw[List.filter_append]
 by_cases h:zh r=κ
 ·rw[if_pos h.symm];simp[h]
 ·rw[if_neg (fun e=>h e.symm)];simp[h]
theorem QG {l:List Rec}{κ:Key}(h:κ∉Qk l):qD l κ= []:=by
 unfold qD
 rw[List.filter_eq_nil_iff]
 intro r hr e
 exact h (XN.2 ⟨r,hr,by simpa using e⟩)
theorem Xz {l:List Rec}{κ:Key}(h:κ∈Qk l):qD l κ≠[]:=by
 obtain⟨r,hr,e⟩:=XN.1 h
 intro he
 unfold qD at he
 rw[List.filter_eq_nil_iff]at he
 exact he r hr (by simpa using e)
end zn
theorem yz.next {w:World}{base sb:Nat}{l:List Rec}{r:Rec}(h:yz w base sb (jA (zn.Qk l) (zn.zh r)) (fun κ'=>if κ'=zn.zh r then(if zn.zh r∈zn.Qk l then zn.qD l (zn.zh r) else []) ++ [r] else zn.qD l κ')):
 yz w base sb (zn.Qk (l ++ [r])) (zn.qD (l ++ [r])):=by
 rw[zn.domS_app]
 refine h.congr fun κ _=>?_
 rw[zn.rowsS_app]
 by_cases e:κ=zn.zh r
 ·rw[if_pos e,if_pos e]
  subst e
  by_cases hd:zn.zh r∈zn.Qk l
  ·rw[if_pos hd]
  ·rw[if_neg hd,zn.QG hd]
 ·rw[if_neg e,if_neg e]
def ym (w:World)(tb:Nat)(dom:List ByteArray):Prop:=∃f:ByteArray→Int,yT Value.string vM w tb dom (fun a=>.int .i64 (f a))
section
variable {w w':World}{tb:Nat}{dom:List ByteArray}
theorem ym.keep (h:ym w tb dom)(hk:tb<w.heap.size→w'.heap[tb]? =w.heap[tb]?):ym w' tb dom:=by
 obtain⟨f,h⟩:=h
 exact⟨f,h.keep fun o ho=>(hk (qw ho)).trans ho⟩
theorem ym.below (h:ym w tb dom)(hb:Below w.heap.size w w'):ym w' tb dom:=h.keep fun hlt=>hb.block tb hlt
theorem ym.lt (h:ym w tb dom):tb<w.heap.size:=by obtain⟨_,h1⟩:=h;exact h1.lt
theorem ym.grown (h:ym w tb dom){row:Option Nat}(hg:w.grownBy w' row)(hne:row≠some tb):ym w' tb dom:=h.keep fun hlt=>hg.block tb hlt (Ne.symm hne)
theorem ym.vS (h:ym w tb dom):∃es c,w.heap[tb]? =some (.map es c):=by
 obtain⟨_,h⟩:=h
 exact h.vS
theorem ym.made (w:World):ym (w.alloc (.map #[] 0)) w.heap.size []:=⟨fun _=>0,yT.made w _ _ _⟩
theorem Vn (h:ym w tb dom){n:ByteArray}(hn:n.size≤maxLen):∃x:Int,(Instr.lookup 92 (.map (some tb)) (.string n) false).run Tryz.prog w= .ok (.int .i64 x) w∧
 ∀y:Int,∃w1,(Instr.mapUpdate 92 (.map (some tb)) (.string n) (.int .i64 y)).run Tryz.prog w= .ok () w1∧w.grownBy w1 (some tb)∧ym w1 tb (jA dom n):=by
 obtain⟨f,h⟩:=h
 refine⟨if n∈dom then f n else 0,?_,fun y=>?_⟩
 ·rw[uK strE Tryz.underlying92 xQ h hn]
  split <;> rfl
 ·obtain⟨w1,h1,h2,_,h3⟩:=xX strE Tryz.underlying92 h hn (.int .i64 y)
  refine⟨w1,h1,h2,fun a=>if a=n then y else f a,h3.congr fun a _=>?_⟩
  unfold QD
  by_cases e:a=n
  ·simp[e]
  ·simp[e]
end
end Go.Proofs.YtdjjemajfphjaaaGreat
