import Derived.Test.YtpcmilhjpmlbpaaGreatDoorQMapF
import Derived.Test.YtpcmilhjpmlbpaaGreatDoorQZoneA
import Derived.Deep.AppendLies
import Derived.Lib.OwnKind
set_option maxRecDepth 100000
set_option maxHeartbeats 1000000
namespace Go.Proofs.YtpcmilhjpmlbpaaGreatDoor
open Go.RowKit Go.WideMaps Go.WideElems
theorem laidOut:laidOutB Tryz.prog=true:=by kernel_rfl
theorem row_key:(140:TypeId)<Tryz.prog.types.size:=of_decide_eq_true (by kernel_rfl)
theorem Uj:(179:TypeId)<Tryz.prog.types.size:=of_decide_eq_true (by kernel_rfl)
theorem wide_key:(match Tryz.prog.underlying 140 with | some (.array _ _) | some (.struct _)=>true | _=>false)=true:=by kernel_rfl
theorem wide_full:(match Tryz.prog.underlying 179 with | some (.array _ _) | some (.struct _)=>true | _=>false)=true:=by kernel_rfl
theorem law_key:KeyLaw Tryz.prog 140:=deep_law_laid laidOut (m:=2) (by omega) row_key (by kernel_rfl) wide_key
theorem law_full:KeyLaw Tryz.prog 179:=deep_law_laid laidOut (m:=3) (by omega) Uj (by kernel_rfl) wide_full
@[reducible] def Xl (a:ByteArray×Int):Value:=.agg #[.string a.1,.int .i64 a.2]
@[reducible] def Kn (a:ByteArray×Int×ByteArray):Value:=.agg #[.string a.1,.int .i64 a.2.1,.string a.2.2]
def JB (a:ByteArray×Int):Prop:=a.1.size≤maxLen∧(Lit.int .i64 a.2).wf=true
def YM (a:ByteArray×Int×ByteArray):Prop:=a.1.size≤maxLen∧(Lit.int .i64 a.2.1).wf=true∧a.2.2.size≤maxLen
theorem kt_key:Tryz.prog.keyType 140=true:=by kernel_rfl
theorem kt_full:Tryz.prog.keyType 179=true:=by kernel_rfl
theorem co_key:Tryz.prog.cellsOf 140=2:=by kernel_rfl
theorem co_full:Tryz.prog.cellsOf 179=3:=by kernel_rfl
theorem co_str:Tryz.prog.cellsOf 9=1:=by kernel_rfl
theorem co_int:Tryz.prog.cellsOf 3=1:=by kernel_rfl
theorem lits_key (n:Nat)(a:ByteArray×Int)(ha:JB a):∃l,Tryz.prog.keyLits (n+2) 140 [.string a.1,.int .i64 a.2]=some l:=by
 obtain⟨k1,k2⟩:=ha;simp[Program.keyLits,Tryz.underlying140,Tryz.underlying9,Tryz.underlying3,co_key,co_str,co_int,k1,k2]
theorem keyE:KeyE Tryz.prog 140 Xl JB where
 law:=law_key
 key:=fun a ha=>by
  obtain⟨l,hl⟩:=lits_key 294 a ha;have hf:Value.formed Tryz.prog 140 (Xl a)=true:=by kernel_rfl
  have hs:Tryz.prog.types.size=295:=by kernel_rfl
  refine⟨.string (keyBytes l),?_⟩;unfold keyOf;rw[Tryz.underlying140];simp only[kt_key,hf,Bool.and_true,if_true,hs];rw[show(Xl a).cells.toList= [.string a.1,.int .i64 a.2] from rfl,hl];rfl
 inj:=fun a b h=>by
  obtain⟨a1,a2⟩:=a;obtain⟨b1,b2⟩:=b;simp at h;rw[h.1,h.2]
theorem lits_full (n:Nat)(a:ByteArray×Int×ByteArray)(ha:YM a):∃l,Tryz.prog.keyLits (n+3) 179 [.string a.1,.int .i64 a.2.1,.string a.2.2]=some l:=by
 obtain⟨k1,k2,k3⟩:=ha;simp[Program.keyLits,Tryz.underlying179,Tryz.underlying140,Tryz.underlying9,Tryz.underlying3,co_full,co_key,co_str,co_int,k1,k2,k3];rw[if_pos]
 ·exact⟨_,rfl⟩
 ·intro i hi
  match i,hi with
  | 0,_=>simp
  | 1,_=>simp
theorem fullE:KeyE Tryz.prog 179 Kn YM where
 law:=law_full
 key:=fun a ha=>by
  obtain⟨l,hl⟩:=lits_full 293 a ha;have hf:Value.formed Tryz.prog 179 (Kn a)=true:=by kernel_rfl
  have hs:Tryz.prog.types.size=295:=by kernel_rfl
  refine⟨.string (keyBytes l),?_⟩;unfold keyOf;rw[Tryz.underlying179];simp only[kt_full,hf,Bool.and_true,if_true,hs];rw[show(Kn a).cells.toList= [.string a.1,.int .i64 a.2.1,.string a.2.2] from rfl,hl];rfl
 inj:=fun a b h=>by
  obtain⟨a1,a2,a3⟩:=a;obtain⟨b1,b2,b3⟩:=b;simp at h;rw[h.1,h.2.1,h.2.2]
def xy (a:ByteArray):Prop:=a.size≤maxLen
theorem strE:KeyE Tryz.prog 9 Value.string xy where
 law:=string_law Tryz.underlying9
 key:=fun _ ha=>⟨_,keyOf_string_mk Tryz.underlying9 ha⟩
 inj:=fun a b h=>by simpa using h
end Go.Proofs.YtpcmilhjpmlbpaaGreatDoor
namespace Go.Proofs.YtpcmilhjpmlbpaaGreatDoor
open Go.RowKit Go.Shelf nm
theorem ql {P:Program}{id:Nat}{Q:Exit→Act→World→Prop}{a:Act}{w:World}{l:List Oper}(hm:P.follows .mixedOrders=true)(hB:Region.lexB .any l.toArray=true)
 (h:wpQuiet P l.toArray (fun W=>∃p,W=gw w p) (fun a'=>∀W,(∃p,W=gw w p)→Q .normal a' W) l a):(Code.region id l.toArray true).wp P Q a w:=
 wp_region_quiet (C:=fun W=>∃p,W=gw w p) hm hB (gw_draw w) (by simpa using h)
def kI (w:World)(z:Nat)(qg:ByteArray)(rv sv tv:Value):Prop:=w.heap[z]? =some (.cells #[.string qg,rv,sv,tv] 117 (0,0))
namespace zn
def zm (bad:Nat→Bool)(n:Nat):Option Nat:=(List.range n).find? bad
theorem V8 {bad:Nat→Bool}{n k:Nat}(hk:k<n)(h:bad k=true)(hb:∀j,j<k→bad j=false):zm bad n=some k:=by
 unfold zm;rw[List.find?_eq_some_iff_getElem];exact⟨h,k,by simpa using hk,by simp,fun j hj=>by simp[hb j hj]⟩
theorem vR {bad:Nat→Bool}{n:Nat}(h:∀j,j<n→bad j=false):zm bad n=none:=by
 unfold zm;rw[List.find?_eq_none];intro x hx;rw[h x (List.mem_range.1 hx)];simp
def jV (r:Rec):Bool:=!(qo r.owner && decide (r.cls=1) && decide (0≤r.ttl) && decide (r.ttl≤2147483647) && decide (dt.jd r.typ r.data=0))
def atB (l:List Rec)(f:Rec→Bool)(k:Nat):Bool:=match l[k]? with
 | some r=>f r
 | none=>false
theorem uM {l:List Rec}{f:Rec→Bool}{k:Nat}(h:k<l.length):atB l f k=f l[k]:=by
 unfold atB;rw[List.getElem?_eq_getElem h]
def kg (qg:ByteArray)(l:List Rec):Option (Int×Int):=
 match zm (atB l jV) l.length with
 | some k=>some (k,8)
 | none=>match zm (atB l fun r=>!zB r.owner qg) l.length with
   | some k=>some (k,5)
   | none=>none
end zn
def Thrown (o:Option (Int×Int))(e:Ending):Prop:=match o with
 | some (k,c)=>e= .panicked [{ v:=uZ k c,recovered:=false}]
 | none=>e= .returned (.tuple #[])
theorem uE {n:Nat}{code:Int}{bad:Nat→Bool}{Inv:Nat→World→Prop}{e:Ending}{w':World}(h:JF n code bad Inv e w'):
 (∃k:Nat,zn.zm bad n=some k∧k<n∧e= .panicked [{ v:=uZ k code,recovered:=false}]∧Inv (k+1) w')∨(zn.zm bad n=none∧(∀j,j<n→bad j=false)∧e= .returned (.tuple #[])∧Inv n w'):=by
 rcases h with⟨k,h1,h2,h3,h4,h5⟩|⟨h1,h2,h3⟩
 ·exact .inl ⟨k,zn.V8 h1 h2 h3,h1,h4,h5⟩
 ·exact .inr ⟨zn.vR h1,h1,h2,h3⟩
theorem plain1_any (k:Int)(r:Rec)(w:World):Calls Tryz.prog 111 #[.int .i64 k,ym r] w fun e w'=>e= .returned (.bool (zn.jV r))∧Below w.heap.size w w':=by
 have hB:=qe ((Below.refl _ w).alloc (Nat.le_refl _) (.cells (recC r).toArray 80))
 cases hc:qo r.owner
 ·have hr:zn.jV r=true:=by unfold zn.jV;rw[hc];rfl
  have HR:=qe hr;have HC:=qe hc;clear hr hc
  go_enter Tryz.func111,Tryz.ntmps111
  go_wp2_with fail;refine(zt _ _).mono ?_;rintro e w1 ⟨rfl,hB1⟩;rw[HC.out,Yf];go_wp2_with fail;go_ret;exact⟨qH HR.out.symm,hB.out.trans (hB1.mono hB.out.size)⟩
 ·by_cases h1:r.cls=1
  ·have b1:(r.cls != 1)=false:=by rw[h1];rfl
   by_cases h2:0≤r.ttl
   ·by_cases h3:r.ttl≤2147483647
    ·have hr:zn.jV r= !decide (dt.jd r.typ r.data=0):=by unfold zn.jV;rw[hc,decide_eq_true h1,decide_eq_true h2,decide_eq_true h3];rfl
     by_cases h4:dt.jd r.typ r.data=0
     ·rw[decide_eq_true h4]at hr;have HR:=qe hr;have HC:=qe hc;have H1:=qe h1;have H4:=qe h4;clear hr hc h1 h4
      go_enter Tryz.func111,Tryz.ntmps111
      go_wp2_with fail;refine(zt _ _).mono ?_;rintro e w1 ⟨rfl,hB1⟩;rw[HC.out,vK];have hb2:=hB.out.trans (hB1.mono hB.out.size);have c1:=(hB1.cell (p:=⟨w.heap.size,1,none⟩) (by simp)).trans (qZ w r 80 1 _ rfl);have c2:=(hB1.cell (p:=⟨w.heap.size,2,none⟩) (by simp)).trans (qZ w r 80 2 _ rfl);have c3:=(hB1.cell (p:=⟨w.heap.size,3,none⟩) (by simp)).trans (qZ w r 80 3 _ rfl);have c4:=(hB1.cell (p:=⟨w.heap.size,4,none⟩) (by simp)).trans (qZ w r 80 4 _ rfl);go_wp2_with fail;refine(vo _ _ _).mono ?_;rintro e w2 ⟨rfl,hB2⟩;rw[H4.out];go_wp2_with fail;go_ret;exact⟨qH (by rw[HR.out];simp;omega),hb2.trans (hB2.mono hb2.size)⟩
     ·rw[decide_eq_false h4]at hr;have b4:(dt.jd r.typ r.data == 0)=false:=by rw[beq_eq_false_iff_ne];exact h4
      have b5:(dt.jd r.typ r.data != 0)=true:=by rw[bne_iff_ne];exact h4
      have HR:=qe hr;have HC:=qe hc;have H1:=qe h1;clear hr hc h1 h4
      go_enter Tryz.func111,Tryz.ntmps111
      go_wp2_with fail;refine(zt _ _).mono ?_;rintro e w1 ⟨rfl,hB1⟩;rw[HC.out,vK];have hb2:=hB.out.trans (hB1.mono hB.out.size);have c1:=(hB1.cell (p:=⟨w.heap.size,1,none⟩) (by simp)).trans (qZ w r 80 1 _ rfl);have c2:=(hB1.cell (p:=⟨w.heap.size,2,none⟩) (by simp)).trans (qZ w r 80 2 _ rfl);have c3:=(hB1.cell (p:=⟨w.heap.size,3,none⟩) (by simp)).trans (qZ w r 80 3 _ rfl);have c4:=(hB1.cell (p:=⟨w.heap.size,4,none⟩) (by simp)).trans (qZ w r 80 4 _ rfl);go_wp2_with fail;refine(vo _ _ _).mono ?_;rintro e w2 ⟨rfl,hB2⟩;go_wp2_with fail;go_ret;exact⟨qH (by rw[HR.out];rfl),hb2.trans (hB2.mono hb2.size)⟩
    ·have hr:zn.jV r=true:=by unfold zn.jV;rw[decide_eq_false h3];simp
     have HR:=qe hr;have HC:=qe hc;have H1:=qe h1;clear hr hc h1
     go_enter Tryz.func111,Tryz.ntmps111
     go_wp2_with fail;refine(zt _ _).mono ?_;rintro e w1 ⟨rfl,hB1⟩;rw[HC.out,vK];have c2:=(hB1.cell (p:=⟨w.heap.size,2,none⟩) (by simp)).trans (qZ w r 80 2 _ rfl);have c3:=(hB1.cell (p:=⟨w.heap.size,3,none⟩) (by simp)).trans (qZ w r 80 3 _ rfl);go_wp2_with fail;go_ret;exact⟨qH HR.out.symm,hB.out.trans (hB1.mono hB.out.size)⟩
   ·have hr:zn.jV r=true:=by unfold zn.jV;rw[decide_eq_false h2];simp
    have HR:=qe hr;have HC:=qe hc;have H1:=qe h1;clear hr hc h1
    go_enter Tryz.func111,Tryz.ntmps111
    go_wp2_with fail;refine(zt _ _).mono ?_;rintro e w1 ⟨rfl,hB1⟩;rw[HC.out,vK];have c2:=(hB1.cell (p:=⟨w.heap.size,2,none⟩) (by simp)).trans (qZ w r 80 2 _ rfl);have c3:=(hB1.cell (p:=⟨w.heap.size,3,none⟩) (by simp)).trans (qZ w r 80 3 _ rfl);go_wp2_with fail;go_ret;exact⟨qH HR.out.symm,hB.out.trans (hB1.mono hB.out.size)⟩
  ·have b1:(r.cls != 1)=true:=by rw[bne_iff_ne];exact h1
   have hr:zn.jV r=true:=by unfold zn.jV;rw[decide_eq_false h1];simp
   have HR:=qe hr;have HC:=qe hc;clear hr hc h1
   go_enter Tryz.func111,Tryz.ntmps111
   go_wp2_with fail;refine(zt _ _).mono ?_;rintro e w1 ⟨rfl,hB1⟩;rw[HC.out,vK];have c2:=(hB1.cell (p:=⟨w.heap.size,2,none⟩) (by simp)).trans (qZ w r 80 2 _ rfl);go_wp2_with fail;go_ret;exact⟨qH HR.out.symm,hB.out.trans (hB1.mono hB.out.size)⟩
theorem plain2_any (k:Int)(r:Rec)(bx z:Nat)(qg:ByteArray)(rv sv tv:Value)(w:World)(hbx:w.cell? ⟨bx,0,none⟩=some (.pointer (some ⟨z,0,none⟩)))(hz:kI w z qg rv sv tv):
 Calls Tryz.prog 112 #[.int .i64 k,ym r,.pointer (some ⟨bx,0,none⟩)] w fun e w'=>e= .returned (.bool (!zB r.owner qg))∧Below w.heap.size w w':=by
 have hB:=qe ((Below.refl _ w).alloc (Nat.le_refl _) (.cells (recC r).toArray 80));have e1:=qf (qZ w r 80 0 _ rfl);have e2:=qf (qw (.cells (recC r).toArray 80) hbx);have hz0:w.cell? ⟨z,0,none⟩=some (.string qg):=by rw[qh hz];rfl
 have e3:=qf (qw (.cells (recC r).toArray 80) hz0);have HZ:=qe hz;clear hbx hz hz0
 go_enter Tryz.func112,Tryz.ntmps112
 go_wp2_with fail;refine ql (by kernel_rfl) (by kernel_rfl) ?_
 repeat (refine wpQuiet_step (fun K hK=>?_);go_simp;first | (refine hK _ ?_;clear hK K) | (apply Exists.intro;refine⟨fun _=>?_,hK _ ?_⟩;(first | (go_at_call 113;exact qV (within_any _ _ _)));clear hK K))
 refine wpQuiet_nil ?_;intro W hW;have hBW:Below (w.heap.size+1) (w.alloc (.cells (recC r).toArray 80)) W:=by obtain⟨p,rfl⟩:=hW;simpa using qB (w.alloc (.cells (recC r).toArray 80)) p
 clear hW;go_wp2_with fail;go_ret;exact⟨rfl,hB.out.trans (hBW.mono (by omega))⟩
theorem Xy (args:Array Value)(w:World):(callFunc 111 args).run Tryz.prog w= .ok (.enter 111 args) w:=by kernel_rfl
theorem Xx (args:Array Value)(w:World):(callFunc 112 args).run Tryz.prog w= .ok (.enter 112 args) w:=by kernel_rfl
theorem plain_any (qg:ByteArray)(l:List Rec)(hl:l.length≤2000)(z:Nat)(rv sv tv:Value)(w:World)(hz:kI w z qg rv sv tv)(hrv:qm w rv l):
 Calls Tryz.prog 76 #[.pointer (some ⟨z,0,none⟩)] w fun e w'=>Thrown (zn.kg qg l) e∧Below w.heap.size w w':=by
 obtain⟨w1,hw1⟩:∃W,W=w.alloc (.cells #[.pointer (some ⟨z,0,none⟩)] 43):=⟨_,rfl⟩;have hB1:Below w.heap.size w w1:=by rw[hw1];exact(Below.refl _ w).alloc (Nat.le_refl _) _
 have hbx:w1.cell? ⟨w.heap.size,0,none⟩=some (.pointer (some ⟨z,0,none⟩)):=by rw[hw1,qh (qz rfl)];rfl
 have hs1:w1.heap.size=w.heap.size+1:=by rw[hw1];simp
 have hz1:kI w1 z qg rv sv tv:=(hB1.block z (qA hz)).trans hz;have hr1:qm w1 rv l:=hrv.below hB1;have hzc:w1.cell? ⟨z,1,none⟩=some rv:=by rw[qh hz1];rfl
 have hzl:=qA hz1;have first:=Jr 111 #[] Xy 8 l hl rv (zn.atB l zn.jV) (fun _ W=>Below w1.heap.size w1 W)
  (fun _ W h=>hr1.below h) (fun _ W W' h h'=>h.trans (h'.mono h.size)) (fun k hk W h=>by
   refine(plain1_any k l[k] W).mono ?_;rintro e W' ⟨rfl,hb⟩;exact⟨by rw[zn.uM hk],h.trans (hb.mono h.size)⟩)
 have second:=fun W0 (h0:Below w1.heap.size w1 W0)=>Jr 112 #[.pointer (some ⟨w.heap.size,0,none⟩)] Xx 5 l hl rv (zn.atB l fun r=>!zB r.owner qg) (fun _ W=>Below w1.heap.size w1 W)
  (fun _ W h=>hr1.below h) (fun _ W W' h h'=>h.trans (h'.mono h.size)) (fun k hk W h=>by
   refine(plain2_any k l[k] w.heap.size z qg rv sv tv W ((h.cell (p:=⟨w.heap.size,0,none⟩) (by show w.heap.size<w1.heap.size;omega)).trans hbx) ((h.block z hzl).trans hz1)).mono ?_;rintro e W' ⟨rfl,hb⟩;exact⟨by rw[zn.uM hk],h.trans (hb.mono h.size)⟩) W0 h0
 have HF:=qe first;have HS:=qe second;have HW:=qe hw1
 have HZ:=qe hz;have HZ1:=qe hz1;have HR:=qe hrv;have HR1:=qe hr1;have hzw:w.cell? ⟨z,1,none⟩=some rv:=by rw[qh hz];rfl
 have hza:=fun o=>qw (W:=w) o hzw;clear first second hz hz1 hrv hr1 hw1
 go_enter Tryz.func76,Tryz.ntmps76
 go_wp2_with fail;rw[← HW.out];clear hza hzw;refine(HF.out w1 (Below.refl _ _)).mono ?_;intro e w2 hp;rcases uE hp with⟨k,hfb,hk,rfl,hB2⟩|⟨hfb,_,rfl,hB2⟩
 ·have hres:zn.kg qg l=some ((k:Int),8):=by unfold zn.kg;rw[hfb]
  have zH:=qe hres;clear hp hfb hres;go_wp2_with fail;exact⟨rfl,(by rw[zH.out];rfl),hB1.trans (hB2.mono (by omega))⟩
 ·have c1:=(hB2.cell (p:=⟨w.heap.size,0,none⟩) (by show w.heap.size<w1.heap.size;omega)).trans hbx;have c2:=(hB2.cell (p:=⟨z,1,none⟩) hzl).trans hzc;have HFB:=qe hfb;clear hp hfb;go_wp2_with fail;refine(HS.out w2 hB2).mono ?_;intro e w3 hp;rcases uE hp with⟨k,hfb,hk,rfl,hB3⟩|⟨hfb,_,rfl,hB3⟩
  ·have hres:zn.kg qg l=some ((k:Int),5):=by unfold zn.kg;rw[HFB.out];simp only[hfb]
   have zH:=qe hres;clear hp hfb hres;go_wp2_with fail;exact⟨rfl,(by rw[zH.out];rfl),hB1.trans (hB3.mono (by omega))⟩
  ·have hres:zn.kg qg l=none:=by unfold zn.kg;rw[HFB.out];simp only[hfb]
   have zH:=qe hres;clear hp hfb hres;go_wp2_with fail
   go_end0
   exact⟨(by rw[zH.out];rfl),hB1.trans (hB3.mono (by omega))⟩
end Go.Proofs.YtpcmilhjpmlbpaaGreatDoor
namespace Go.Proofs.YtpcmilhjpmlbpaaGreatDoor
open Go.RowKit Go.WideMaps nm
abbrev Key:=ByteArray×Int
instance decMem {α:Type} [DecidableEq α] (a:α)(d:List α):Decidable (a∈d):=inferInstance
def qp (l:List Rec):List Value:=l.flatMap recC
theorem zK (l:List Rec):(qp l).length=l.length*5:=by
 unfold qp
 induction l with
 | nil=>rfl
 | cons r l ih=>rw[List.flatMap_cons,List.length_append,ih,List.length_cons];simp;omega
theorem jH (l:List Rec)(r:Rec):qp (l ++ [r])=qp l ++ recC r:=by unfold qp;rw[List.flatMap_append];simp
theorem Vg:∀(l:List Rec) (k:Nat) (hk:k<l.length) (j:Nat) (v:Value),(recC l[k])[j]? =some v→(qp l)[k*5+j]? =some v
 | r :: l,0,hk,j,v,h=>by
   have hj:j<(recC r).length:=(List.getElem?_eq_some_iff.1 h).1;show(recC r ++ qp l)[0*5+j]? =some v;rw[Nat.zero_mul,Nat.zero_add,List.getElem?_append_left hj];exact h
 | r :: l,k+1,hk,j,v,h=>by
   show(recC r ++ qp l)[(k+1)*5+j]? =some v;rw[List.getElem?_append_right (by simp;omega)];have:=Vg l k (by simpa using hk) j v h;rw[← this]
   congr 1
   simp;omega
def yC (w:World)(base sb:Nat)(dom:List Key)(F:Key→List Rec):Prop:=
 ∃val:Key→Value,kY Xl JB w sb dom val∧(∀κ∈dom,w.ownsRow base 80 5 (val κ) (F κ).length (qp (F κ)))∧(∀κ∈dom,∀κ'∈dom,κ≠κ'→(val κ).ownBlock≠(val κ').ownBlock)
section
variable {w w':World}{base sb:Nat}{dom:List Key}{F F':Key→List Rec}
theorem jI {w:World}{base:Nat}{e:TypeId}{size:Nat}{v:Value}{n:Nat}{xs:List Value}(h:w.ownsRow base e size v n xs){b:Nat}{es:Array MapEntry}{c:Nat}(hb:w.heap[b]? =some (.map es c)):v.ownBlock≠some b:=fun e=>by
 obtain⟨c',fz,hc⟩:=Lib.ownsRow_kind h b e;rw[hb]at hc
 cases hc
theorem qj {w w':World}{base:Nat}{e:TypeId}{size:Nat}{v:Value}{n:Nat}{xs:List Value}(h:w.ownsRow base e size v n xs)(hk:∀b,v.ownBlock=some b→w'.heap[b]? =w.heap[b]?):w'.ownsRow base e size v n xs:=by
 refine⟨h.1,?_⟩;rcases h.2 with hn | ⟨g,cap,cur,rfl,hb,hg,rest⟩
 ·exact .inl hn
 ·exact .inr ⟨g,cap,cur,rfl,hb,(hk g rfl).trans hg,rest⟩
theorem kY.Q5 {α:Type}{zh:α→Value}{Kok:α→Prop}{w:World}{b:Nat}{dom:List α}{val:α→Value}(h:kY zh Kok w b dom val):∃es c,w.heap[b]? =some (.map es c):=by
 obtain⟨_,_,es,c,h1,_⟩:=h;exact⟨es,c,h1⟩
theorem kY.not_row {α:Type}{zh:α→Value}{Kok:α→Prop}{w:World}{b:Nat}{dom:List α}{val:α→Value}(h:kY zh Kok w b dom val){base:Nat}{e:TypeId}{size:Nat}{v:Value}{n:Nat}{xs:List Value}(hr:w.ownsRow base e size v n xs):v.ownBlock≠some b:=by
 obtain⟨es,c,hb⟩:=h.Q5;exact jI hr hb
theorem yC.keep (h:yC w base sb dom F)(hk:∀b,base≤b∨b=sb→b<w.heap.size→w'.heap[b]? =w.heap[b]?):yC w' base sb dom F:=by
 obtain⟨val,h1,h2,h3⟩:=h;refine⟨val,h1.keep fun o ho=>(hk sb (.inr rfl) (qA ho)).trans ho,fun κ hκ=>?_,h3⟩;exact qj (h2 κ hκ) fun b hb=>hk b (.inl ((h2 κ hκ).lt b hb).1) ((h2 κ hκ).lt b hb).2
theorem yC.alloc (h:yC w base sb dom F)(o:Obj):yC (w.alloc o) base sb dom F:=h.keep fun b _ hb=>Below.heap_alloc w o b hb
theorem yC.below (h:yC w base sb dom F)(hb:Below w.heap.size w w'):yC w' base sb dom F:=h.keep fun b _ hlt=>hb.block b hlt
theorem yC.congr (h:yC w base sb dom F)(hF:∀κ∈dom,F κ=F' κ):yC w base sb dom F':=by
 obtain⟨val,h1,h2,h3⟩:=h;exact⟨val,h1,fun κ hκ=>by rw[← hF κ hκ];exact h2 κ hκ,h3⟩
theorem yC.made (w:World)(base:Nat)(F:Key→List Rec):yC (w.alloc (.map #[] 0)) base w.heap.size [] F:=
 ⟨fun _=>.slice none 0 0,kY.made w Xl JB _,fun κ h=>by simp at h,fun κ h=>by simp at h⟩
theorem UQ (w:World):(zeroValue 31).run Tryz.prog w= .ok (.slice none 0 0) w:=by kernel_rfl
theorem ZV (w:World):(zeroValue 3).run Tryz.prog w= .ok (.int .i64 0) w:=by kernel_rfl
theorem sets_entry {wh:World}(h:yC wh base sb dom F)(hk:∀b,b<wh.heap.size→w.heap[b]? =wh.heap[b]?){κ:Key}(hκ:JB κ)(r:Rec):
 ∃(v:Value) (n:Nat) (old:List Rec) (st:Nat) (w1:World),(Instr.mapEntry 114 (.map (some sb)) (Xl κ)).run Tryz.prog w= .ok (.tuple #[v,goInt st]) w1∧w.grownBy w1 (some sb)∧
  w1.ownsRow base 80 5 v n (qp old)∧old=(if κ∈dom then F κ else [])∧n=old.length∧(∀b,v.ownBlock=some b→base≤b∧b<wh.heap.size∧b≠sb)∧sb<wh.heap.size∧n≤((F κ).length)∧
  ∀g cap w2,w2.ownsRow base 80 5 (.slice (some ⟨g,0,none⟩) (n+1) cap) (n+1) (qp old ++ recC r)→w1.grownBy w2 v.ownBlock→(v.ownBlock=some g∨g=w1.heap.size)→
   ∃w3,(Instr.entryStore 114 (.map (some sb)) (.int .i64 (st:Int)) (.slice (some ⟨g,0,none⟩) (n+1) cap)).run Tryz.prog w2= .ok () w3∧w2.grownBy w3 (some sb)∧
    yC w3 base sb (uK dom κ) (fun κ'=>if κ'=κ then old ++ [r] else F κ'):=by
 obtain⟨val,hM0,hR0,hD⟩:=h;have hM:kY Xl JB w sb dom val:=hM0.keep fun o ho=>(hk sb (qA ho)).trans ho;have hR:∀κ∈dom,w.ownsRow base 80 5 (val κ) (F κ).length (qp (F κ)):=fun κ hκ=>qj (hR0 κ hκ) fun b hb=>hk b ((hR0 κ hκ).lt b hb).2;obtain⟨st,w1,hrun,hg1,_,hM1,hst⟩:=KJ keyE Tryz.underlying114 UQ hM hκ;obtain⟨es,c,hsb⟩:=hM.Q5;have hkeep1:∀κ'∈dom,w1.ownsRow base 80 5 (val κ') (F κ').length (qp (F κ')):=fun κ' hκ'=>(hR κ' hκ').kept hg1 (.inr (jI (hR κ' hκ') hsb));have hown1:w1.ownsRow base 80 5 (if κ∈dom then val κ else .slice none 0 0) (if κ∈dom then F κ else []).length (qp (if κ∈dom then F κ else [])):=by
  by_cases hd:κ∈dom
  ·rw[if_pos hd,if_pos hd];exact hkeep1 κ hd
  ·rw[if_neg hd,if_neg hd];exact World.ownsRow_nil w1 base _ 5
 have hvs:(if κ∈dom then val κ else .slice none 0 0:Value).ownBlock≠some sb:=hM1.not_row hown1;have hvb:∀b,(if κ∈dom then val κ else .slice none 0 0:Value).ownBlock=some b→base≤b∧b<wh.heap.size∧b≠sb:=fun b hb=>by
  refine⟨(hown1.lt b hb).1,?_,fun e=>hvs (e ▸ hb)⟩;by_cases hd:κ∈dom
  ·rw[if_pos hd]at hb;exact((hR0 κ hd).lt b hb).2
  ·rw[if_neg hd]at hb;cases hb
 have hnF:(if κ∈dom then F κ else []).length≤(F κ).length:=by split <;> simp
 refine⟨_,_,_,st,w1,hrun,hg1,hown1,rfl,rfl,hvb,hM0.lt,hnF,fun g cap w2 hown2 hgrow hat=>?_⟩;have hs2:w2.heap[sb]? =w1.heap[sb]?:=hgrow.block sb hM1.lt (Ne.symm hvs);obtain⟨w3,hrun3,hg3,_,hM3⟩:=hst w2 (.slice (some ⟨g,0,none⟩) ((if κ∈dom then F κ else []).length+1) cap) hs2;obtain⟨es1,c1,hsb1⟩:=hM1.Q5;have hgs:g≠sb:=fun e=>by
  subst e;exact jI hown2 (hs2.trans hsb1) rfl
 have KN:∀κ'∈dom,κ'≠κ→(val κ').ownBlock≠some g∧((val κ').ownBlock=none∨(val κ').ownBlock≠(if κ∈dom then val κ else .slice none 0 0:Value).ownBlock):=fun κ' hκ' hne=>by
  by_cases hd:κ∈dom
  ·rw[if_pos hd]at hat ⊢;have h1:=hD κ' hκ' κ hd hne;refine⟨?_,.inr h1⟩;rcases hat with hat | hat
   ·rw[← hat];exact h1
   ·intro e;have:=((hkeep1 κ' hκ').lt g e).2;omega
  ·rw[if_neg hd]at hat ⊢;rcases hat with hat | hat
   ·cases hat
   ·refine⟨fun e=>?_,?_⟩
    ·have:=((hkeep1 κ' hκ').lt g e).2;omega
    ·cases hv:(val κ').ownBlock with
     | none=>exact .inl rfl
     | some b=>exact .inr (by simp[Value.ownBlock])
 have hmem:∀κ'∈uK dom κ,κ'≠κ→κ'∈dom:=fun κ' h hne=>by
  unfold uK at h
  split at h
  ·exact h
  ·rcases List.mem_append.1 h with h | h
   ·exact h
   ·exact absurd (List.mem_singleton.1 h) hne
 refine⟨w3,hrun3,hg3,_,hM3,fun κ' hκ'=>?_,fun κ1 h1 κ2 h2 hne=>?_⟩
 ·by_cases he:κ'=κ
  ·subst he;simp only[if_pos,ZY];rw[List.length_append,jH];exact hown2.kept hg3 (.inr (by simpa[Value.ownBlock] using hgs))
  ·simp only[if_neg he,ZY];have hd:=hmem κ' hκ' he;have h2:=(hkeep1 κ' hd).kept hgrow ((KN κ' hd he).2);exact h2.kept hg3 (.inr (hM1.not_row (hkeep1 κ' hd)))
 ·unfold ZY;by_cases e1:κ1=κ
  ·rw[if_pos e1];have e2:κ2≠κ:=fun e=>hne (e1.trans e.symm);rw[if_neg e2];exact fun e=>(KN κ2 (hmem κ2 h2 e2) e2).1 e.symm
  ·rw[if_neg e1];by_cases e2:κ2=κ
   ·rw[if_pos e2];exact(KN κ1 (hmem κ1 h1 e1) e1).1
   ·rw[if_neg e2];exact hD κ1 (hmem κ1 h1 e1) κ2 (hmem κ2 h2 e2) hne
end
theorem yC.grownMap {w w':World}{base sb tb:Nat}{dom:List Key}{F:Key→List Rec}(h:yC w base sb dom F)(hg:w.grownBy w' (some tb))(ht:∃es c,w.heap[tb]? =some (.map es c))(hne:sb≠tb):yC w' base sb dom F:=by
 obtain⟨es,c,hm⟩:=ht;obtain⟨val,h1,h2,h3⟩:=h;refine⟨val,h1.keep fun o ho=>(hg.block sb (qA ho) (by simpa using hne)).trans ho,fun κ hκ=>?_,h3⟩;exact(h2 κ hκ).kept hg (.inr (jI (h2 κ hκ) hm))
namespace zn
def Jc (low:ByteArray)(m q:Nat):List ByteArray:=(List.range (m-q+1)).map fun i:Nat=>zQ low ((m:Int)-i)
def yg (r:Rec):Key:=(qx r.owner,r.typ)
def Ql (l:List Rec):List Key:=l.foldl (fun d r=>uK d (yg r)) []
def qI (l:List Rec)(κ:Key):List Rec:=l.filter fun r=>decide (yg r=κ)
def ups (c:Nat)(low:ByteArray):List ByteArray:=(List.range ((qK low).toNat-c+1)).map fun i:Nat=>zQ low (qK low-i)
def Vs (d:List ByteArray)(l:List ByteArray):List ByteArray:=l.foldl uK d
def UG (c:Nat)(l:List Rec):List ByteArray:=l.foldl (fun d r=>if Qx r then d else Vs d (ups c (qx r.owner))) []
theorem ups_part {low:ByteArray}{m:Nat}(h:qK low=m)(c:Nat):ups c low=Jc low m c:=by
 unfold ups Jc;rw[h,Int.toNat_natCast]
theorem partU_top {low:ByteArray}{m:Nat}(h:zQ low m=low):Jc low m m= [low]:=by
 unfold Jc;simp[h]
theorem partU_next {low:ByteArray}{m q:Nat}(h0:0<q)(h1:q≤m):Jc low m (q-1)=Jc low m q ++ [zQ low ((q-1:Nat):Int)]:=by
 unfold Jc;rw[show m-(q-1)+1=(m-q+1)+1 from by omega,List.range_succ,List.map_append]
 congr 1
 simp only[List.map_cons,List.map_nil,List.cons.injEq,and_true]
 congr 1
 omega
theorem partU_end {low:ByteArray}{m q c:Nat}(h1:q≤m)(h2:q≤c)(h3:c≤q∨q=m):Jc low m q=Jc low m c:=by
 unfold Jc;rw[show m-q=m-c from by omega]
theorem insAll_app (d a:List ByteArray)(n:ByteArray):Vs d (a ++ [n])=uK (Vs d a) n:=by unfold Vs;rw[List.foldl_append];rfl
theorem domS_app (l:List Rec)(r:Rec):Ql (l ++ [r])=uK (Ql l) (yg r):=by unfold Ql;rw[List.foldl_append];rfl
theorem domT_app (c:Nat)(l:List Rec)(r:Rec):UG c (l ++ [r])=if Qx r then UG c l else Vs (UG c l) (ups c (qx r.owner)):=by unfold UG;rw[List.foldl_append];rfl
theorem uT {α:Type} [DecidableEq α] {d:List α}{a b:α}:b∈uK d a↔b∈d∨b=a:=by
 unfold uK
 split
 ·rename_i h
  exact⟨.inl,fun h'=>h'.elim id (fun e=>e ▸ h)⟩
 ·rw[List.mem_append,List.mem_singleton]
theorem mem_foldS:∀{l:List Rec} {d:List Key} {κ:Key},κ∈l.foldl (fun d r=>uK d (yg r)) d↔κ∈d∨∃r∈l,yg r=κ
 | [],d,κ=>by simp
 | r :: l,d,κ=>by
   rw[List.foldl_cons,mem_foldS (l:=l),uT];constructor
   ·rintro((h | h) | ⟨x,hx,e⟩)
    ·exact .inl h
    ·exact .inr ⟨r,by simp,h.symm⟩
    ·exact .inr ⟨x,by simp[hx],e⟩
   ·rintro(h | ⟨x,hx,e⟩)
    ·exact .inl (.inl h)
    ·rcases List.mem_cons.1 hx with rfl | hx
     ·exact .inl (.inr e.symm)
     ·exact .inr ⟨x,hx,e⟩
theorem mem_domS {l:List Rec}{κ:Key}:κ∈Ql l↔∃r∈l,yg r=κ:=by
 unfold Ql;rw[mem_foldS];simp
theorem rowsS_app (l:List Rec)(r:Rec)(κ:Key):qI (l ++ [r]) κ=if κ=yg r then qI l κ ++ [r] else qI l κ:=by
 unfold qI;rw[List.filter_append];by_cases h:yg r=κ
 ·rw[if_pos h.symm];simp[h]
 ·rw[if_neg (fun e=>h e.symm)];simp[h]
theorem QY {l:List Rec}{κ:Key}(h:κ∉Ql l):qI l κ= []:=by
 unfold qI;rw[List.filter_eq_nil_iff];intro r hr e;exact h (mem_domS.2 ⟨r,hr,by simpa using e⟩)
theorem X4 {l:List Rec}{κ:Key}(h:κ∈Ql l):qI l κ≠[]:=by
 obtain⟨r,hr,e⟩:=mem_domS.1 h;intro he;unfold qI at he;rw[List.filter_eq_nil_iff]at he;exact he r hr (by simpa using e)
end zn
theorem yC.next {w:World}{base sb:Nat}{l:List Rec}{r:Rec}(h:yC w base sb (uK (zn.Ql l) (zn.yg r)) (fun κ'=>if κ'=zn.yg r then(if zn.yg r∈zn.Ql l then zn.qI l (zn.yg r) else []) ++ [r] else zn.qI l κ')):
 yC w base sb (zn.Ql (l ++ [r])) (zn.qI (l ++ [r])):=by
 rw[zn.domS_app];refine h.congr fun κ _=>?_;rw[zn.rowsS_app];by_cases e:κ=zn.yg r
 ·rw[if_pos e,if_pos e];subst e;by_cases hd:zn.yg r∈zn.Ql l
  ·rw[if_pos hd]
  ·rw[if_neg hd,zn.QY hd]
 ·rw[if_neg e,if_neg e]
def yx (w:World)(tb:Nat)(dom:List ByteArray):Prop:=∃f:ByteArray→Int,kY Value.string xy w tb dom (fun a=>.int .i64 (f a))
section
variable {w w':World}{tb:Nat}{dom:List ByteArray}
theorem yx.keep (h:yx w tb dom)(hk:tb<w.heap.size→w'.heap[tb]? =w.heap[tb]?):yx w' tb dom:=by
 obtain⟨f,h⟩:=h;exact⟨f,h.keep fun o ho=>(hk (qA ho)).trans ho⟩
theorem yx.below (h:yx w tb dom)(hb:Below w.heap.size w w'):yx w' tb dom:=h.keep fun hlt=>hb.block tb hlt
theorem yx.grown (h:yx w tb dom){row:Option Nat}(hg:w.grownBy w' row)(hne:row≠some tb):yx w' tb dom:=h.keep fun hlt=>hg.block tb hlt (Ne.symm hne)
theorem yx.Q5 (h:yx w tb dom):∃es c,w.heap[tb]? =some (.map es c):=by
 obtain⟨_,h⟩:=h;exact h.Q5
theorem yx.made (w:World):yx (w.alloc (.map #[] 0)) w.heap.size []:=⟨fun _=>0,kY.made w _ _ _⟩
theorem VL (h:yx w tb dom){n:ByteArray}(hn:n.size≤maxLen):∃x:Int,(Instr.lookup 115 (.map (some tb)) (.string n) false).run Tryz.prog w= .ok (.int .i64 x) w∧
 ∀y:Int,∃w1,(Instr.mapUpdate 115 (.map (some tb)) (.string n) (.int .i64 y)).run Tryz.prog w= .ok () w1∧w.grownBy w1 (some tb)∧yx w1 tb (uK dom n):=by
 obtain⟨f,h⟩:=h;refine⟨if n∈dom then f n else 0,?_,fun y=>?_⟩
 ·rw[QS strE Tryz.underlying115 ZV h hn]
  split <;> rfl
 ·obtain⟨w1,h1,h2,_,h3⟩:=VX strE Tryz.underlying115 h hn (.int .i64 y);refine⟨w1,h1,h2,fun a=>if a=n then y else f a,h3.congr fun a _=>?_⟩;unfold ZY;by_cases e:a=n
  ·simp[e]
  ·simp[e]
end
end Go.Proofs.YtpcmilhjpmlbpaaGreatDoor
