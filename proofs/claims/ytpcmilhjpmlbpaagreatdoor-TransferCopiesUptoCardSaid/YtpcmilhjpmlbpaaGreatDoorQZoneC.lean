import Derived.Test.YtpcmilhjpmlbpaaGreatDoorQMapF
import Derived.Test.YtpcmilhjpmlbpaaGreatDoorQZoneA
import Derived.Test.YtpcmilhjpmlbpaaGreatDoorQNameE
import Derived.Deep.AppendLies
import Derived.Lib.OwnKind
set_option maxRecDepth 100000
set_option maxHeartbeats 1000000
namespace Go.Proofs.YtpcmilhjpmlbpaaGreatDoor
open Go.RowKit Go.WideMaps Go.WideElems
theorem laidOut:laidOutB Tryz.prog=true:=by kernel_rfl
theorem row_key:(140:TypeId)<Tryz.prog.types.size:=of_decide_eq_true (by kernel_rfl)
theorem Kj:(179:TypeId)<Tryz.prog.types.size:=of_decide_eq_true (by kernel_rfl)
theorem wide_key:(match Tryz.prog.underlying 140 with | some (.array _ _) | some (.struct _)=>true | _=>false)=true:=by kernel_rfl
theorem wide_full:(match Tryz.prog.underlying 179 with | some (.array _ _) | some (.struct _)=>true | _=>false)=true:=by kernel_rfl
theorem law_key:KeyLaw Tryz.prog 140:=deep_law_laid laidOut (m:=2) (by omega) row_key (by kernel_rfl) wide_key
theorem law_full:KeyLaw Tryz.prog 179:=deep_law_laid laidOut (m:=3) (by omega) Kj (by kernel_rfl) wide_full
@[reducible] def Ve (a:ByteArray×Int):Value:=.agg #[.string a.1,.int .i64 a.2]
@[reducible] def Jo (a:ByteArray×Int×ByteArray):Value:=.agg #[.string a.1,.int .i64 a.2.1,.string a.2.2]
def Ya (a:ByteArray×Int):Prop:=a.1.size≤maxLen∧(Lit.int .i64 a.2).wf=true
def ZZ (a:ByteArray×Int×ByteArray):Prop:=a.1.size≤maxLen∧(Lit.int .i64 a.2.1).wf=true∧a.2.2.size≤maxLen
theorem kt_key:Tryz.prog.keyType 140=true:=by kernel_rfl
theorem kt_full:Tryz.prog.keyType 179=true:=by kernel_rfl
theorem co_key:Tryz.prog.cellsOf 140=2:=by kernel_rfl
theorem co_full:Tryz.prog.cellsOf 179=3:=by kernel_rfl
theorem co_str:Tryz.prog.cellsOf 9=1:=by kernel_rfl
theorem co_int:Tryz.prog.cellsOf 3=1:=by kernel_rfl
theorem lits_key (n:Nat)(a:ByteArray×Int)(ha:Ya a):∃l,Tryz.prog.keyLits (n+2) 140 [.string a.1,.int .i64 a.2]=some l:=by
 obtain⟨k1,k2⟩:=ha
 simp[Program.keyLits,Tryz.underlying140,Tryz.underlying9,Tryz.underlying3,co_key,co_str,co_int,k1,k2]
theorem keyE:X8 Tryz.prog 140 Ve Ya where
 law:=law_key
 key:=fun a ha=>by
  obtain⟨l,hl⟩:=lits_key 294 a ha
  have hf:Value.formed Tryz.prog 140 (Ve a)=true:=by kernel_rfl
  have hs:Tryz.prog.types.size=295:=by kernel_rfl
  refine⟨.string (keyBytes l),?_⟩
  unfold keyOf
  rw[Tryz.underlying140]
  simp only[kt_key,hf,Bool.and_true,if_true,hs]
  rw[show(Ve a).cells.toList= [.string a.1,.int .i64 a.2] from rfl,hl]
  rfl
 inj:=fun a b h=>by
  obtain⟨a1,a2⟩:=a
  obtain⟨b1,b2⟩:=b
  simp at h
  rw[h.1,h.2]
theorem lits_full (n:Nat)(a:ByteArray×Int×ByteArray)(ha:ZZ a):∃l,Tryz.prog.keyLits (n+3) 179 [.string a.1,.int .i64 a.2.1,.string a.2.2]=some l:=by
 obtain⟨k1,k2,k3⟩:=ha
 simp[Program.keyLits,Tryz.underlying179,Tryz.underlying140,Tryz.underlying9,Tryz.underlying3,co_full,co_key,co_str,co_int,k1,k2,k3]
 rw[if_pos]
 ·exact⟨_,rfl⟩
 ·intro i hi
  match i,hi with
  | 0,_=>simp
  | 1,_=>simp
theorem fullE:X8 Tryz.prog 179 Jo ZZ where
 law:=law_full
 key:=fun a ha=>by
  obtain⟨l,hl⟩:=lits_full 293 a ha
  have hf:Value.formed Tryz.prog 179 (Jo a)=true:=by kernel_rfl
  have hs:Tryz.prog.types.size=295:=by kernel_rfl
  refine⟨.string (keyBytes l),?_⟩
  unfold keyOf
  rw[Tryz.underlying179]
  simp only[kt_full,hf,Bool.and_true,if_true,hs]
  rw[show(Jo a).cells.toList= [.string a.1,.int .i64 a.2.1,.string a.2.2] from rfl,hl]
  rfl
 inj:=fun a b h=>by
  obtain⟨a1,a2,a3⟩:=a
  obtain⟨b1,b2,b3⟩:=b
  simp at h
  rw[h.1,h.2.1,h.2.2]
def vC (a:ByteArray):Prop:=a.size≤maxLen
theorem strE:X8 Tryz.prog 9 Value.string vC where
 law:=string_law Tryz.underlying9
 key:=fun _ ha=>⟨_,keyOf_string_mk Tryz.underlying9 ha⟩
 inj:=fun a b h=>by simpa using h
end Go.Proofs.YtpcmilhjpmlbpaaGreatDoor
namespace Go.Proofs.YtpcmilhjpmlbpaaGreatDoor
open Go.RowKit Go.Shelf nm
theorem ql {P:Program}{id:Nat}{Q:Exit→Act→World→Prop}{a:Act}{w:World}{l:List Oper}(hm:P.follows .mixedOrders=true)(hB:Region.lexB .any l.toArray=true)
 (h:wpQuiet P l.toArray (fun W=>∃p,W=gw w p) (fun a'=>∀W,(∃p,W=gw w p)→Q .normal a' W) l a):(Code.region id l.toArray true).wp P Q a w:=
 wp_region_quiet (C:=fun W=>∃p,W=gw w p) hm hB (gw_draw w) (by simpa using h)
def jK (w:World)(z:Nat)(qf:ByteArray)(rv sv tv:Value):Prop:=w.heap[z]? =some (.cells #[.string qf,rv,sv,tv] 117 (0,0))
namespace zn
def zh (bad:Nat→Bool)(n:Nat):Option Nat:=(List.range n).find? bad
theorem U0 {bad:Nat→Bool}{n k:Nat}(hk:k<n)(h:bad k=true)(hb:∀j,j<k→bad j=false):zh bad n=some k:=by
 unfold zh
 rw[List.find?_eq_some_iff_getElem]
 exact⟨h,k,by simpa using hk,by simp,fun j hj=>by simp[hb j hj]⟩
theorem uO {bad:Nat→Bool}{n:Nat}(h:∀j,j<n→bad j=false):zh bad n=none:=by
 unfold zh
 rw[List.find?_eq_none]
 intro x hx
 rw[h x (List.mem_range.1 hx)]
 simp
def jq (r:Rec):Bool:=!(qj r.owner && decide (r.cls=1) && decide (0≤r.ttl) && decide (r.ttl≤2147483647) && decide (dt.yT r.typ r.data=0))
def atB (l:List Rec)(f:Rec→Bool)(k:Nat):Bool:=match l[k]? with
 | some r=>f r
 | none=>false
theorem uf {l:List Rec}{f:Rec→Bool}{k:Nat}(h:k<l.length):atB l f k=f l[k]:=by
 unfold atB
 rw[List.getElem?_eq_getElem h]
def yZ (qf:ByteArray)(l:List Rec):Option (Int×Int):=
 match zh (atB l jq) l.length with
 | some k=>some (k,8)
 | none=>match zh (atB l fun r=>!zx r.owner qf) l.length with
   | some k=>some (k,5)
   | none=>none
end zn
def Thrown (o:Option (Int×Int))(e:Ending):Prop:=match o with
 | some (k,c)=>e= .panicked [{ v:=uz k c,recovered:=false}]
 | none=>e= .returned (.tuple #[])
theorem kQ {n:Nat}{code:Int}{bad:Nat→Bool}{Inv:Nat→World→Prop}{e:Ending}{w':World}(h:YS n code bad Inv e w'):
 (∃k:Nat,zn.zh bad n=some k∧k<n∧e= .panicked [{ v:=uz k code,recovered:=false}]∧Inv (k+1) w')∨(zn.zh bad n=none∧(∀j,j<n→bad j=false)∧e= .returned (.tuple #[])∧Inv n w'):=by
 rcases h with⟨k,h1,h2,h3,h4,h5⟩|⟨h1,h2,h3⟩
 ·exact .inl ⟨k,zn.U0 h1 h2 h3,h1,h4,h5⟩
 ·exact .inr ⟨zn.uO h1,h1,h2,h3⟩
theorem plain1_any (k:Int)(r:Rec)(w:World):Calls Tryz.prog 111 #[.int .i64 k,yA r] w fun e w'=>e= .returned (.bool (zn.jq r))∧Below w.heap.size w w':=by
 have hB:=Lib.hid ((Below.refl _ w).alloc (Nat.le_refl _) (.cells (recC r).toArray 80))
 cases hc:qj r.owner
 ·have hr:zn.jq r=true:=by unfold zn.jq;rw[hc];rfl
  have HR:=Lib.hid hr;have HC:=Lib.hid hc
  clear hr hc
  go_enter Tryz.func111,Tryz.ntmps111
  go_wp2_with fail
  refine(zk _ _).mono ?_
  rintro e w1 ⟨rfl,hB1⟩
  rw[HC.out,Zi]
  go_wp2_with fail
  go_ret
  exact⟨qI HR.out.symm,hB.out.trans (hB1.mono hB.out.size)⟩
 ·by_cases h1:r.cls=1
  ·have b1:(r.cls != 1)=false:=by rw[h1];rfl
   by_cases h2:0≤r.ttl
   ·by_cases h3:r.ttl≤2147483647
    ·have hr:zn.jq r= !decide (dt.yT r.typ r.data=0):=by unfold zn.jq;rw[hc,decide_eq_true h1,decide_eq_true h2,decide_eq_true h3];rfl
     by_cases h4:dt.yT r.typ r.data=0
     ·rw[decide_eq_true h4]at hr
      have HR:=Lib.hid hr;have HC:=Lib.hid hc;have H1:=Lib.hid h1;have H4:=Lib.hid h4
      clear hr hc h1 h4
      go_enter Tryz.func111,Tryz.ntmps111
      go_wp2_with fail
      refine(zk _ _).mono ?_
      rintro e w1 ⟨rfl,hB1⟩
      rw[HC.out,uh]
      have hb2:=hB.out.trans (hB1.mono hB.out.size)
      have c1:=(hB1.cell (p:=⟨w.heap.size,1,none⟩) (by simp)).trans (qW w r 80 1 _ rfl)
      have c2:=(hB1.cell (p:=⟨w.heap.size,2,none⟩) (by simp)).trans (qW w r 80 2 _ rfl)
      have c3:=(hB1.cell (p:=⟨w.heap.size,3,none⟩) (by simp)).trans (qW w r 80 3 _ rfl)
      have c4:=(hB1.cell (p:=⟨w.heap.size,4,none⟩) (by simp)).trans (qW w r 80 4 _ rfl)
      go_wp2_with fail
      refine(uC _ _ _).mono ?_
      rintro e w2 ⟨rfl,hB2⟩
      rw[H4.out]
      go_wp2_with fail
      go_ret
      exact⟨qI (by rw[HR.out];simp;omega),hb2.trans (hB2.mono hb2.size)⟩
     ·rw[decide_eq_false h4]at hr
      have b4:(dt.yT r.typ r.data == 0)=false:=by rw[beq_eq_false_iff_ne];exact h4
      have b5:(dt.yT r.typ r.data != 0)=true:=by rw[bne_iff_ne];exact h4
      have HR:=Lib.hid hr;have HC:=Lib.hid hc;have H1:=Lib.hid h1
      clear hr hc h1 h4
      go_enter Tryz.func111,Tryz.ntmps111
      go_wp2_with fail
      refine(zk _ _).mono ?_
      rintro e w1 ⟨rfl,hB1⟩
      rw[HC.out,uh]
      have hb2:=hB.out.trans (hB1.mono hB.out.size)
      have c1:=(hB1.cell (p:=⟨w.heap.size,1,none⟩) (by simp)).trans (qW w r 80 1 _ rfl)
      have c2:=(hB1.cell (p:=⟨w.heap.size,2,none⟩) (by simp)).trans (qW w r 80 2 _ rfl)
      have c3:=(hB1.cell (p:=⟨w.heap.size,3,none⟩) (by simp)).trans (qW w r 80 3 _ rfl)
      have c4:=(hB1.cell (p:=⟨w.heap.size,4,none⟩) (by simp)).trans (qW w r 80 4 _ rfl)
      go_wp2_with fail
      refine(uC _ _ _).mono ?_
      rintro e w2 ⟨rfl,hB2⟩
      go_wp2_with fail
      go_ret
      exact⟨qI (by rw[HR.out];rfl),hb2.trans (hB2.mono hb2.size)⟩
    ·have hr:zn.jq r=true:=by unfold zn.jq;rw[decide_eq_false h3];simp
     have HR:=Lib.hid hr;have HC:=Lib.hid hc;have H1:=Lib.hid h1
     clear hr hc h1
     go_enter Tryz.func111,Tryz.ntmps111
     go_wp2_with fail
     refine(zk _ _).mono ?_
     rintro e w1 ⟨rfl,hB1⟩
     rw[HC.out,uh]
     have c2:=(hB1.cell (p:=⟨w.heap.size,2,none⟩) (by simp)).trans (qW w r 80 2 _ rfl)
     have c3:=(hB1.cell (p:=⟨w.heap.size,3,none⟩) (by simp)).trans (qW w r 80 3 _ rfl)
     go_wp2_with fail
     go_ret
     exact⟨qI HR.out.symm,hB.out.trans (hB1.mono hB.out.size)⟩
   ·have hr:zn.jq r=true:=by unfold zn.jq;rw[decide_eq_false h2];simp
    have HR:=Lib.hid hr;have HC:=Lib.hid hc;have H1:=Lib.hid h1
    clear hr hc h1
    go_enter Tryz.func111,Tryz.ntmps111
    go_wp2_with fail
    refine(zk _ _).mono ?_
    rintro e w1 ⟨rfl,hB1⟩
    rw[HC.out,uh]
    have c2:=(hB1.cell (p:=⟨w.heap.size,2,none⟩) (by simp)).trans (qW w r 80 2 _ rfl)
    have c3:=(hB1.cell (p:=⟨w.heap.size,3,none⟩) (by simp)).trans (qW w r 80 3 _ rfl)
    go_wp2_with fail
    go_ret
    exact⟨qI HR.out.symm,hB.out.trans (hB1.mono hB.out.size)⟩
  ·have b1:(r.cls != 1)=true:=by rw[bne_iff_ne];exact h1
   have hr:zn.jq r=true:=by unfold zn.jq;rw[decide_eq_false h1];simp
   have HR:=Lib.hid hr;have HC:=Lib.hid hc
   clear hr hc h1
   go_enter Tryz.func111,Tryz.ntmps111
   go_wp2_with fail
   refine(zk _ _).mono ?_
   rintro e w1 ⟨rfl,hB1⟩
   rw[HC.out,uh]
   have c2:=(hB1.cell (p:=⟨w.heap.size,2,none⟩) (by simp)).trans (qW w r 80 2 _ rfl)
   go_wp2_with fail
   go_ret
   exact⟨qI HR.out.symm,hB.out.trans (hB1.mono hB.out.size)⟩
theorem plain2_any (k:Int)(r:Rec)(bx z:Nat)(qf:ByteArray)(rv sv tv:Value)(w:World)(hbx:w.cell? ⟨bx,0,none⟩=some (.pointer (some ⟨z,0,none⟩)))(hz:jK w z qf rv sv tv):
 Calls Tryz.prog 112 #[.int .i64 k,yA r,.pointer (some ⟨bx,0,none⟩)] w fun e w'=>e= .returned (.bool (!zx r.owner qf))∧Below w.heap.size w w':=by
 have hB:=Lib.hid ((Below.refl _ w).alloc (Nat.le_refl _) (.cells (recC r).toArray 80))
 have e1:=qh (qW w r 80 0 _ rfl)
 have e2:=qh (qp (.cells (recC r).toArray 80) hbx)
 have hz0:w.cell? ⟨z,0,none⟩=some (.string qf):=by rw[qg hz];rfl
 have e3:=qh (qp (.cells (recC r).toArray 80) hz0)
 have HZ:=Lib.hid hz
 clear hbx hz hz0
 go_enter Tryz.func112,Tryz.ntmps112
 go_wp2_with fail
 refine ql (by kernel_rfl) (by kernel_rfl) ?_
 repeat (refine wpQuiet_step (fun K hK=>?_);go_simp;first | (refine hK _ ?_;clear hK K) | (apply Exists.intro;refine⟨fun _=>?_,hK _ ?_⟩;(first | (go_at_call 113;exact qU (within_any _ _ _)));clear hK K))
 refine wpQuiet_nil ?_
 intro W hW
 have hBW:Below (w.heap.size+1) (w.alloc (.cells (recC r).toArray 80)) W:=by obtain⟨p,rfl⟩:=hW;simpa using qC (w.alloc (.cells (recC r).toArray 80)) p
 clear hW
 go_wp2_with fail
 go_ret
 exact⟨rfl,hB.out.trans (hBW.mono (by omega))⟩
theorem Vq (args:Array Value)(w:World):(callFunc 111 args).run Tryz.prog w= .ok (.enter 111 args) w:=by kernel_rfl
theorem Vp (args:Array Value)(w:World):(callFunc 112 args).run Tryz.prog w= .ok (.enter 112 args) w:=by kernel_rfl
theorem plain_any (qf:ByteArray)(l:List Rec)(hl:l.length≤2000)(z:Nat)(rv sv tv:Value)(w:World)(hz:jK w z qf rv sv tv)(hrv:qz w rv l):
 Calls Tryz.prog 76 #[.pointer (some ⟨z,0,none⟩)] w fun e w'=>Thrown (zn.yZ qf l) e∧Below w.heap.size w w':=by
 obtain⟨w1,hw1⟩:∃W,W=w.alloc (.cells #[.pointer (some ⟨z,0,none⟩)] 43):=⟨_,rfl⟩
 have hB1:Below w.heap.size w w1:=by rw[hw1];exact(Below.refl _ w).alloc (Nat.le_refl _) _
 have hbx:w1.cell? ⟨w.heap.size,0,none⟩=some (.pointer (some ⟨z,0,none⟩)):=by rw[hw1,qg (qB rfl)];rfl
 have hs1:w1.heap.size=w.heap.size+1:=by rw[hw1];simp
 have hz1:jK w1 z qf rv sv tv:=(hB1.block z (qo hz)).trans hz
 have hr1:qz w1 rv l:=hrv.below hB1
 have hzc:w1.cell? ⟨z,1,none⟩=some rv:=by rw[qg hz1];rfl
 have hzl:=qo hz1
 have first:=YG 111 #[] Vq 8 l hl rv (zn.atB l zn.jq) (fun _ W=>Below w1.heap.size w1 W)
  (fun _ W h=>hr1.below h) (fun _ W W' h h'=>h.trans (h'.mono h.size)) (fun k hk W h=>by
   refine(plain1_any k l[k] W).mono ?_
   rintro e W' ⟨rfl,hb⟩
   exact⟨by rw[zn.uf hk],h.trans (hb.mono h.size)⟩)
 have second:=fun W0 (h0:Below w1.heap.size w1 W0)=>YG 112 #[.pointer (some ⟨w.heap.size,0,none⟩)] Vp 5 l hl rv (zn.atB l fun r=>!zx r.owner qf) (fun _ W=>Below w1.heap.size w1 W)
  (fun _ W h=>hr1.below h) (fun _ W W' h h'=>h.trans (h'.mono h.size)) (fun k hk W h=>by
   refine(plain2_any k l[k] w.heap.size z qf rv sv tv W ((h.cell (p:=⟨w.heap.size,0,none⟩) (by show w.heap.size<w1.heap.size;omega)).trans hbx) ((h.block z hzl).trans hz1)).mono ?_
   rintro e W' ⟨rfl,hb⟩
   exact⟨by rw[zn.uf hk],h.trans (hb.mono h.size)⟩) W0 h0
 have HF:=Lib.hid first;have HS:=Lib.hid second;have HW:=Lib.hid hw1
 have HZ:=Lib.hid hz;have HZ1:=Lib.hid hz1;have HR:=Lib.hid hrv;have HR1:=Lib.hid hr1
 have hzw:w.cell? ⟨z,1,none⟩=some rv:=by rw[qg hz];rfl
 have hza:=fun o=>qp (W:=w) o hzw
 clear first second hz hz1 hrv hr1 hw1
 go_enter Tryz.func76,Tryz.ntmps76
 go_wp2_with fail
 rw[← HW.out]
 clear hza hzw
 refine(HF.out w1 (Below.refl _ _)).mono ?_
 intro e w2 hp
 rcases kQ hp with⟨k,hfb,hk,rfl,hB2⟩|⟨hfb,_,rfl,hB2⟩
 ·have hres:zn.yZ qf l=some ((k:Int),8):=by unfold zn.yZ;rw[hfb]
  have zA:=Lib.hid hres
  clear hp hfb hres
  go_wp2_with fail
  exact⟨rfl,(by rw[zA.out];rfl),hB1.trans (hB2.mono (by omega))⟩
 ·have c1:=(hB2.cell (p:=⟨w.heap.size,0,none⟩) (by show w.heap.size<w1.heap.size;omega)).trans hbx
  have c2:=(hB2.cell (p:=⟨z,1,none⟩) hzl).trans hzc
  have HFB:=Lib.hid hfb
  clear hp hfb
  go_wp2_with fail
  refine(HS.out w2 hB2).mono ?_
  intro e w3 hp
  rcases kQ hp with⟨k,hfb,hk,rfl,hB3⟩|⟨hfb,_,rfl,hB3⟩
  ·have hres:zn.yZ qf l=some ((k:Int),5):=by unfold zn.yZ;rw[HFB.out];simp only[hfb]
   have zA:=Lib.hid hres
   clear hp hfb hres
   go_wp2_with fail
   exact⟨rfl,(by rw[zA.out];rfl),hB1.trans (hB3.mono (by omega))⟩
  ·have hres:zn.yZ qf l=none:=by unfold zn.yZ;rw[HFB.out];simp only[hfb]
   have zA:=Lib.hid hres
   clear hp hfb hres
   go_wp2_with fail
   go_end0
   exact⟨(by rw[zA.out];rfl),hB1.trans (hB3.mono (by omega))⟩
end Go.Proofs.YtpcmilhjpmlbpaaGreatDoor
namespace Go.Proofs.YtpcmilhjpmlbpaaGreatDoor
open Go.RowKit Go.WideMaps nm
abbrev Key:=ByteArray×Int
instance decMem {α:Type} [DecidableEq α] (a:α)(d:List α):Decidable (a∈d):=inferInstance
def qx (l:List Rec):List Value:=l.flatMap recC
theorem zK (l:List Rec):(qx l).length=l.length*5:=by
 unfold qx
 induction l with
 | nil=>rfl
 | cons r l ih=>rw[List.flatMap_cons,List.length_append,ih,List.length_cons];simp;omega
theorem kW (l:List Rec)(r:Rec):qx (l ++ [r])=qx l ++ recC r:=by unfold qx;rw[List.flatMap_append];simp
theorem Ua:∀(l:List Rec) (k:Nat) (hk:k<l.length) (j:Nat) (v:Value),(recC l[k])[j]? =some v→(qx l)[k*5+j]? =some v
 | r :: l,0,hk,j,v,h=>by
   have hj:j<(recC r).length:=(List.getElem?_eq_some_iff.1 h).1
   show(recC r ++ qx l)[0*5+j]? =some v
   rw[Nat.zero_mul,Nat.zero_add,List.getElem?_append_left hj]
   exact h
 | r :: l,k+1,hk,j,v,h=>by
   show(recC r ++ qx l)[(k+1)*5+j]? =some v
   rw[List.getElem?_append_right (by simp;omega)]
   have:=Ua l k (by simpa using hk) j v h
   rw[← this]
   congr 1
   simp
   omega
def zY (w:World)(base sb:Nat)(dom:List Key)(F:Key→List Rec):Prop:=
 ∃val:Key→Value,kg Ve Ya w sb dom val∧(∀κ∈dom,w.ownsRow base 80 5 (val κ) (F κ).length (qx (F κ)))∧(∀κ∈dom,∀κ'∈dom,κ≠κ'→(val κ).ownBlock≠(val κ').ownBlock)
section
variable {w w':World}{base sb:Nat}{dom:List Key}{F F':Key→List Rec}
theorem yS {w:World}{base:Nat}{e:TypeId}{size:Nat}{v:Value}{n:Nat}{xs:List Value}(h:w.ownsRow base e size v n xs){b:Nat}{es:Array MapEntry}{c:Nat}(hb:w.heap[b]? =some (.map es c)):v.ownBlock≠some b:=fun e=>by
 obtain⟨c',fz,hc⟩:=Lib.ownsRow_kind h b e
 rw[hb]at hc
 cases hc
theorem qi {w w':World}{base:Nat}{e:TypeId}{size:Nat}{v:Value}{n:Nat}{xs:List Value}(h:w.ownsRow base e size v n xs)(hk:∀b,v.ownBlock=some b→w'.heap[b]? =w.heap[b]?):w'.ownsRow base e size v n xs:=by
 refine⟨h.1,?_⟩
 rcases h.2 with hn | ⟨g,cap,cur,rfl,hb,hg,rest⟩
 ·exact .inl hn
 ·exact .inr ⟨g,cap,cur,rfl,hb,(hk g rfl).trans hg,rest⟩
theorem kg.vV {α:Type}{zf:α→Value}{Kok:α→Prop}{w:World}{b:Nat}{dom:List α}{val:α→Value}(h:kg zf Kok w b dom val):∃es c,w.heap[b]? =some (.map es c):=by
 obtain⟨_,_,es,c,h1,_⟩:=h
 exact⟨es,c,h1⟩
theorem kg.not_row {α:Type}{zf:α→Value}{Kok:α→Prop}{w:World}{b:Nat}{dom:List α}{val:α→Value}(h:kg zf Kok w b dom val){base:Nat}{e:TypeId}{size:Nat}{v:Value}{n:Nat}{xs:List Value}(hr:w.ownsRow base e size v n xs):v.ownBlock≠some b:=by
 obtain⟨es,c,hb⟩:=h.vV
 exact yS hr hb
theorem zY.keep (h:zY w base sb dom F)(hk:∀b,base≤b∨b=sb→b<w.heap.size→w'.heap[b]? =w.heap[b]?):zY w' base sb dom F:=by
 obtain⟨val,h1,h2,h3⟩:=h
 refine⟨val,h1.keep fun o ho=>(hk sb (.inr rfl) (qo ho)).trans ho,fun κ hκ=>?_,h3⟩
 exact qi (h2 κ hκ) fun b hb=>hk b (.inl ((h2 κ hκ).lt b hb).1) ((h2 κ hκ).lt b hb).2
theorem zY.alloc (h:zY w base sb dom F)(o:Obj):zY (w.alloc o) base sb dom F:=h.keep fun b _ hb=>Below.heap_alloc w o b hb
theorem zY.below (h:zY w base sb dom F)(hb:Below w.heap.size w w'):zY w' base sb dom F:=h.keep fun b _ hlt=>hb.block b hlt
theorem zY.congr (h:zY w base sb dom F)(hF:∀κ∈dom,F κ=F' κ):zY w base sb dom F':=by
 obtain⟨val,h1,h2,h3⟩:=h
 exact⟨val,h1,fun κ hκ=>by rw[← hF κ hκ];exact h2 κ hκ,h3⟩
theorem zY.made (w:World)(base:Nat)(F:Key→List Rec):zY (w.alloc (.map #[] 0)) base w.heap.size [] F:=
 ⟨fun _=>.slice none 0 0,kg.made w Ve Ya _,fun κ h=>by simp at h,fun κ h=>by simp at h⟩
theorem KQ (w:World):(zeroValue 31).run Tryz.prog w= .ok (.slice none 0 0) w:=by kernel_rfl
theorem Q5 (w:World):(zeroValue 3).run Tryz.prog w= .ok (.int .i64 0) w:=by kernel_rfl
theorem sets_entry {wh:World}(h:zY wh base sb dom F)(hk:∀b,b<wh.heap.size→w.heap[b]? =wh.heap[b]?){κ:Key}(hκ:Ya κ)(r:Rec):
 ∃(v:Value) (n:Nat) (old:List Rec) (st:Nat) (w1:World),(Instr.mapEntry 114 (.map (some sb)) (Ve κ)).run Tryz.prog w= .ok (.tuple #[v,goInt st]) w1∧w.grownBy w1 (some sb)∧
  w1.ownsRow base 80 5 v n (qx old)∧old=(if κ∈dom then F κ else [])∧n=old.length∧(∀b,v.ownBlock=some b→base≤b∧b<wh.heap.size∧b≠sb)∧sb<wh.heap.size∧n≤((F κ).length)∧
  ∀g cap w2,w2.ownsRow base 80 5 (.slice (some ⟨g,0,none⟩) (n+1) cap) (n+1) (qx old ++ recC r)→w1.grownBy w2 v.ownBlock→(v.ownBlock=some g∨g=w1.heap.size)→
   ∃w3,(Instr.entryStore 114 (.map (some sb)) (.int .i64 (st:Int)) (.slice (some ⟨g,0,none⟩) (n+1) cap)).run Tryz.prog w2= .ok () w3∧w2.grownBy w3 (some sb)∧
    zY w3 base sb (kZ dom κ) (fun κ'=>if κ'=κ then old ++ [r] else F κ'):=by
 obtain⟨val,hM0,hR0,hD⟩:=h
 have hM:kg Ve Ya w sb dom val:=hM0.keep fun o ho=>(hk sb (qo ho)).trans ho
 have hR:∀κ∈dom,w.ownsRow base 80 5 (val κ) (F κ).length (qx (F κ)):=fun κ hκ=>qi (hR0 κ hκ) fun b hb=>hk b ((hR0 κ hκ).lt b hb).2
 obtain⟨st,w1,hrun,hg1,_,hM1,hst⟩:=JJ keyE Tryz.underlying114 KQ hM hκ
 obtain⟨es,c,hsb⟩:=hM.vV
 have XC:∀κ'∈dom,w1.ownsRow base 80 5 (val κ') (F κ').length (qx (F κ')):=fun κ' hκ'=>(hR κ' hκ').kept hg1 (.inr (yS (hR κ' hκ') hsb))
 have hown1:w1.ownsRow base 80 5 (if κ∈dom then val κ else .slice none 0 0) (if κ∈dom then F κ else []).length (qx (if κ∈dom then F κ else [])):=by
  by_cases hd:κ∈dom
  ·rw[if_pos hd,if_pos hd];exact XC κ hd
  ·rw[if_neg hd,if_neg hd];exact World.ownsRow_nil w1 base _ 5
 have hvs:(if κ∈dom then val κ else .slice none 0 0:Value).ownBlock≠some sb:=hM1.not_row hown1
 have hvb:∀b,(if κ∈dom then val κ else .slice none 0 0:Value).ownBlock=some b→base≤b∧b<wh.heap.size∧b≠sb:=fun b hb=>by
  refine⟨(hown1.lt b hb).1,?_,fun e=>hvs (e ▸ hb)⟩
  by_cases hd:κ∈dom
  ·rw[if_pos hd]at hb;exact((hR0 κ hd).lt b hb).2
  ·rw[if_neg hd]at hb;cases hb
 have hnF:(if κ∈dom then F κ else []).length≤(F κ).length:=by split <;> simp
 refine⟨_,_,_,st,w1,hrun,hg1,hown1,rfl,rfl,hvb,hM0.lt,hnF,fun g cap w2 hown2 hgrow hat=>?_⟩
 have hs2:w2.heap[sb]? =w1.heap[sb]?:=hgrow.block sb hM1.lt (Ne.symm hvs)
 obtain⟨w3,hrun3,hg3,_,hM3⟩:=hst w2 (.slice (some ⟨g,0,none⟩) ((if κ∈dom then F κ else []).length+1) cap) hs2
 obtain⟨es1,c1,hsb1⟩:=hM1.vV
 have hgs:g≠sb:=fun e=>by
  subst e
  exact yS hown2 (hs2.trans hsb1) rfl
 have KA:∀κ'∈dom,κ'≠κ→(val κ').ownBlock≠some g∧((val κ').ownBlock=none∨(val κ').ownBlock≠(if κ∈dom then val κ else .slice none 0 0:Value).ownBlock):=fun κ' hκ' hne=>by
  by_cases hd:κ∈dom
  ·rw[if_pos hd]at hat ⊢
   have h1:=hD κ' hκ' κ hd hne
   refine⟨?_,.inr h1⟩
   rcases hat with hat | hat
   ·rw[← hat];exact h1
   ·intro e
    have:=((XC κ' hκ').lt g e).2
    omega
  ·rw[if_neg hd]at hat ⊢
   rcases hat with hat | hat
   ·cases hat
   ·refine⟨fun e=>?_,?_⟩
    ·have:=((XC κ' hκ').lt g e).2
     omega
    ·cases hv:(val κ').ownBlock with
     | none=>exact .inl rfl
     | some b=>exact .inr (by simp[Value.ownBlock])
 have hmem:∀κ'∈kZ dom κ,κ'≠κ→κ'∈dom:=fun κ' h hne=>by
  unfold kZ at h
  split at h
  ·exact h
  ·rcases List.mem_append.1 h with h | h
   ·exact h
   ·exact absurd (List.mem_singleton.1 h) hne
 refine⟨w3,hrun3,hg3,_,hM3,fun κ' hκ'=>?_,fun κ1 h1 κ2 h2 hne=>?_⟩
 ·by_cases he:κ'=κ
  ·subst he
   simp only[if_pos,Q8]
   rw[List.length_append,kW]
   exact hown2.kept hg3 (.inr (by simpa[Value.ownBlock] using hgs))
  ·simp only[if_neg he,Q8]
   have hd:=hmem κ' hκ' he
   have h2:=(XC κ' hd).kept hgrow ((KA κ' hd he).2)
   exact h2.kept hg3 (.inr (hM1.not_row (XC κ' hd)))
 ·unfold Q8
  by_cases e1:κ1=κ
  ·rw[if_pos e1]
   have e2:κ2≠κ:=fun e=>hne (e1.trans e.symm)
   rw[if_neg e2]
   exact fun e=>(KA κ2 (hmem κ2 h2 e2) e2).1 e.symm
  ·rw[if_neg e1]
   by_cases e2:κ2=κ
   ·rw[if_pos e2]
    exact(KA κ1 (hmem κ1 h1 e1) e1).1
   ·rw[if_neg e2]
    exact hD κ1 (hmem κ1 h1 e1) κ2 (hmem κ2 h2 e2) hne
end
theorem zY.grownMap {w w':World}{base sb tb:Nat}{dom:List Key}{F:Key→List Rec}(h:zY w base sb dom F)(hg:w.grownBy w' (some tb))(ht:∃es c,w.heap[tb]? =some (.map es c))(hne:sb≠tb):zY w' base sb dom F:=by
 obtain⟨es,c,hm⟩:=ht
 obtain⟨val,h1,h2,h3⟩:=h
 refine⟨val,h1.keep fun o ho=>(hg.block sb (qo ho) (by simpa using hne)).trans ho,fun κ hκ=>?_,h3⟩
 exact(h2 κ hκ).kept hg (.inr (yS (h2 κ hκ) hm))
namespace zn
def Yq (low:ByteArray)(m q:Nat):List ByteArray:=(List.range (m-q+1)).map fun i:Nat=>zG low ((m:Int)-i)
def zV (r:Rec):Key:=(qw r.owner,r.typ)
def vK (l:List Rec):List Key:=l.foldl (fun d r=>kZ d (zV r)) []
def qE (l:List Rec)(κ:Key):List Rec:=l.filter fun r=>decide (zV r=κ)
def ups (c:Nat)(low:ByteArray):List ByteArray:=(List.range ((qG low).toNat-c+1)).map fun i:Nat=>zG low (qG low-i)
def Ul (d:List ByteArray)(l:List ByteArray):List ByteArray:=l.foldl kZ d
def JP (c:Nat)(l:List Rec):List ByteArray:=l.foldl (fun d r=>if xK r then d else Ul d (ups c (qw r.owner))) []
theorem ups_part {low:ByteArray}{m:Nat}(h:qG low=m)(c:Nat):ups c low=Yq low m c:=by
 unfold ups Yq
 rw[h,Int.toNat_natCast]
theorem partU_top {low:ByteArray}{m:Nat}(h:zG low m=low):Yq low m m= [low]:=by
 unfold Yq
 simp[h]
theorem partU_next {low:ByteArray}{m q:Nat}(h0:0<q)(h1:q≤m):Yq low m (q-1)=Yq low m q ++ [zG low ((q-1:Nat):Int)]:=by
 unfold Yq
 rw[show m-(q-1)+1=(m-q+1)+1 from by omega,List.range_succ,List.map_append]
 congr 1
 simp only[List.map_cons,List.map_nil,List.cons.injEq,and_true]
 congr 1
 omega
theorem partU_end {low:ByteArray}{m q c:Nat}(h1:q≤m)(h2:q≤c)(h3:c≤q∨q=m):Yq low m q=Yq low m c:=by
 unfold Yq
 rw[show m-q=m-c from by omega]
theorem insAll_app (d a:List ByteArray)(n:ByteArray):Ul d (a ++ [n])=kZ (Ul d a) n:=by unfold Ul;rw[List.foldl_append];rfl
theorem domS_app (l:List Rec)(r:Rec):vK (l ++ [r])=kZ (vK l) (zV r):=by unfold vK;rw[List.foldl_append];rfl
theorem domT_app (c:Nat)(l:List Rec)(r:Rec):JP c (l ++ [r])=if xK r then JP c l else Ul (JP c l) (ups c (qw r.owner)):=by unfold JP;rw[List.foldl_append];rfl
theorem uq {α:Type} [DecidableEq α] {d:List α}{a b:α}:b∈kZ d a↔b∈d∨b=a:=by
 unfold kZ
 split
 ·rename_i h
  exact⟨.inl,fun h'=>h'.elim id (fun e=>e ▸ h)⟩
 ·rw[List.mem_append,List.mem_singleton]
theorem mem_foldS:∀{l:List Rec} {d:List Key} {κ:Key},κ∈l.foldl (fun d r=>kZ d (zV r)) d↔κ∈d∨∃r∈l,zV r=κ
 | [],d,κ=>by simp
 | r :: l,d,κ=>by
   rw[List.foldl_cons,mem_foldS (l:=l),uq]
   constructor
   ·rintro((h | h) | ⟨x,hx,e⟩)
    ·exact .inl h
    ·exact .inr ⟨r,by simp,h.symm⟩
    ·exact .inr ⟨x,by simp[hx],e⟩
   ·rintro(h | ⟨x,hx,e⟩)
    ·exact .inl (.inl h)
    ·rcases List.mem_cons.1 hx with rfl | hx
     ·exact .inl (.inr e.symm)
     ·exact .inr ⟨x,hx,e⟩
theorem Xk {l:List Rec}{κ:Key}:κ∈vK l↔∃r∈l,zV r=κ:=by
 unfold vK
 rw[mem_foldS]
 simp
theorem rowsS_app (l:List Rec)(r:Rec)(κ:Key):qE (l ++ [r]) κ=if κ=zV r then qE l κ ++ [r] else qE l κ:=by
 unfold qE
 rw[List.filter_append]
 by_cases h:zV r=κ
 ·rw[if_pos h.symm];simp[h]
 ·rw[if_neg (fun e=>h e.symm)];simp[h]
theorem Qk {l:List Rec}{κ:Key}(h:κ∉vK l):qE l κ= []:=by
 unfold qE
 rw[List.filter_eq_nil_iff]
 intro r hr e
 exact h (Xk.2 ⟨r,hr,by simpa using e⟩)
theorem JC {l:List Rec}{κ:Key}(h:κ∈vK l):qE l κ≠[]:=by
 obtain⟨r,hr,e⟩:=Xk.1 h
 intro he
 unfold qE at he
 rw[List.filter_eq_nil_iff]at he
 exact he r hr (by simpa using e)
end zn
theorem zY.next {w:World}{base sb:Nat}{l:List Rec}{r:Rec}(h:zY w base sb (kZ (zn.vK l) (zn.zV r)) (fun κ'=>if κ'=zn.zV r then(if zn.zV r∈zn.vK l then zn.qE l (zn.zV r) else []) ++ [r] else zn.qE l κ')):
 zY w base sb (zn.vK (l ++ [r])) (zn.qE (l ++ [r])):=by
 rw[zn.domS_app]
 refine h.congr fun κ _=>?_
 rw[zn.rowsS_app]
 by_cases e:κ=zn.zV r
 ·rw[if_pos e,if_pos e]
  subst e
  by_cases hd:zn.zV r∈zn.vK l
  ·rw[if_pos hd]
  ·rw[if_neg hd,zn.Qk hd]
 ·rw[if_neg e,if_neg e]
def zW (w:World)(tb:Nat)(dom:List ByteArray):Prop:=∃f:ByteArray→Int,kg Value.string vC w tb dom (fun a=>.int .i64 (f a))
section
variable {w w':World}{tb:Nat}{dom:List ByteArray}
theorem zW.keep (h:zW w tb dom)(hk:tb<w.heap.size→w'.heap[tb]? =w.heap[tb]?):zW w' tb dom:=by
 obtain⟨f,h⟩:=h
 exact⟨f,h.keep fun o ho=>(hk (qo ho)).trans ho⟩
theorem zW.below (h:zW w tb dom)(hb:Below w.heap.size w w'):zW w' tb dom:=h.keep fun hlt=>hb.block tb hlt
theorem zW.grown (h:zW w tb dom){row:Option Nat}(hg:w.grownBy w' row)(hne:row≠some tb):zW w' tb dom:=h.keep fun hlt=>hg.block tb hlt (Ne.symm hne)
theorem zW.vV (h:zW w tb dom):∃es c,w.heap[tb]? =some (.map es c):=by
 obtain⟨_,h⟩:=h
 exact h.vV
theorem zW.made (w:World):zW (w.alloc (.map #[] 0)) w.heap.size []:=⟨fun _=>0,kg.made w _ _ _⟩
theorem UD (h:zW w tb dom){n:ByteArray}(hn:n.size≤maxLen):∃x:Int,(Instr.lookup 115 (.map (some tb)) (.string n) false).run Tryz.prog w= .ok (.int .i64 x) w∧
 ∀y:Int,∃w1,(Instr.mapUpdate 115 (.map (some tb)) (.string n) (.int .i64 y)).run Tryz.prog w= .ok () w1∧w.grownBy w1 (some tb)∧zW w1 tb (kZ dom n):=by
 obtain⟨f,h⟩:=h
 refine⟨if n∈dom then f n else 0,?_,fun y=>?_⟩
 ·rw[Qe strE Tryz.underlying115 Q5 h hn]
  split <;> rfl
 ·obtain⟨w1,h1,h2,_,h3⟩:=UQ strE Tryz.underlying115 h hn (.int .i64 y)
  refine⟨w1,h1,h2,fun a=>if a=n then y else f a,h3.congr fun a _=>?_⟩
  unfold Q8
  by_cases e:a=n
  ·simp[e]
  ·simp[e]
end
end Go.Proofs.YtpcmilhjpmlbpaaGreatDoor
