import Derived.Test.YtpcmilhjpmlbpaaGreatDoorQMapF
import Derived.Test.YtpcmilhjpmlbpaaGreatDoorQZoneA
import Derived.Deep.AppendLies
import Derived.Lib.OwnKind
import Derived.Deep.RegionHeld3
import Derived.Maps.Range
set_option maxRecDepth 100000
set_option maxHeartbeats 4000000
namespace Go.Proofs.YtpcmilhjpmlbpaaGreatDoor
open Go.RowKit Go.WideMaps Go.WideElems
theorem laidOut:laidOutB Tryz.prog=true:=by kernel_rfl
theorem row_key:(140:TypeId)<Tryz.prog.types.size:=of_decide_eq_true (by kernel_rfl)
theorem UB:(179:TypeId)<Tryz.prog.types.size:=of_decide_eq_true (by kernel_rfl)
theorem wide_key:(match Tryz.prog.underlying 140 with | some (.array _ _) | some (.struct _)=>true | _=>false)=true:=by kernel_rfl
theorem wide_full:(match Tryz.prog.underlying 179 with | some (.array _ _) | some (.struct _)=>true | _=>false)=true:=by kernel_rfl
theorem law_key:KeyLaw Tryz.prog 140:=deep_law_laid laidOut (m:=2) (by omega) row_key (by kernel_rfl) wide_key
theorem law_full:KeyLaw Tryz.prog 179:=deep_law_laid laidOut (m:=3) (by omega) UB (by kernel_rfl) wide_full
@[reducible] def Xy (a:ByteArray×Int):Value:=.agg #[.string a.1,.int .i64 a.2]
@[reducible] def KE (a:ByteArray×Int×ByteArray):Value:=.agg #[.string a.1,.int .i64 a.2.1,.string a.2.2]
def JP (a:ByteArray×Int):Prop:=a.1.size<=maxLen/\(Lit.int .i64 a.2).wf=true
def YZ (a:ByteArray×Int×ByteArray):Prop:=a.1.size<=maxLen/\(Lit.int .i64 a.2.1).wf=true/\a.2.2.size<=maxLen
theorem kt_key:Tryz.prog.keyType 140=true:=by kernel_rfl
theorem kt_full:Tryz.prog.keyType 179=true:=by kernel_rfl
theorem co_key:Tryz.prog.cellsOf 140=2:=by kernel_rfl
theorem co_full:Tryz.prog.cellsOf 179=3:=by kernel_rfl
theorem co_str:Tryz.prog.cellsOf 9=1:=by kernel_rfl
theorem co_int:Tryz.prog.cellsOf 3=1:=by kernel_rfl
theorem lits_key (n:Nat)(a:ByteArray×Int)(ha:JP a):∃l,Tryz.prog.keyLits (n+2) 140 [.string a.1,.int .i64 a.2]=some l:=by
 obtain⟨k1,k2⟩:=ha;simp[Program.keyLits,Tryz.underlying140,Tryz.underlying9,Tryz.underlying3,co_key,co_str,co_int,k1,k2]
theorem keyE:KeyE Tryz.prog 140 Xy JP where
 law:=law_key
 key:=λa ha=>by
  obtain⟨l,hl⟩:=lits_key 294 a ha;have hf:Value.formed Tryz.prog 140 (Xy a)=true:=by kernel_rfl
  have hs:Tryz.prog.types.size=295:=by kernel_rfl
  refine⟨.string (keyBytes l),?_⟩;unfold keyOf;rw[Tryz.underlying140];simp only[kt_key,hf,Bool.and_true,if_true,hs];rw[show(Xy a).cells.toList= [.string a.1,.int .i64 a.2] from rfl,hl];rfl
 inj:=λa b h=>by
  obtain⟨a1,a2⟩:=a;obtain⟨b1,b2⟩:=b;simp at h;rw[h.1,h.2]
theorem lits_full (n:Nat)(a:ByteArray×Int×ByteArray)(ha:YZ a):∃l,Tryz.prog.keyLits (n+3) 179 [.string a.1,.int .i64 a.2.1,.string a.2.2]=some l:=by
 obtain⟨k1,k2,k3⟩:=ha;simp[Program.keyLits,Tryz.underlying179,Tryz.underlying140,Tryz.underlying9,Tryz.underlying3,co_full,co_key,co_str,co_int,k1,k2,k3];rw[if_pos]
 ·exact⟨_,rfl⟩
 ·intro i hi
  match i,hi with
  | 0,_=>simp
  | 1,_=>simp
theorem fullE:KeyE Tryz.prog 179 KE YZ where
 law:=law_full
 key:=λa ha=>by
  obtain⟨l,hl⟩:=lits_full 293 a ha;have hf:Value.formed Tryz.prog 179 (KE a)=true:=by kernel_rfl
  have hs:Tryz.prog.types.size=295:=by kernel_rfl
  refine⟨.string (keyBytes l),?_⟩;unfold keyOf;rw[Tryz.underlying179];simp only[kt_full,hf,Bool.and_true,if_true,hs];rw[show(KE a).cells.toList= [.string a.1,.int .i64 a.2.1,.string a.2.2] from rfl,hl];rfl
 inj:=λa b h=>by
  obtain⟨a1,a2,a3⟩:=a;obtain⟨b1,b2,b3⟩:=b;simp at h;rw[h.1,h.2.1,h.2.2]
def xC (a:ByteArray):Prop:=a.size<=maxLen
theorem strE:KeyE Tryz.prog 9 Value.string xC where
 law:=string_law Tryz.underlying9
 key:=λ_ ha=>⟨_,keyOf_string_mk Tryz.underlying9 ha⟩
 inj:=λa b h=>by simpa using h
end Go.Proofs.YtpcmilhjpmlbpaaGreatDoor
namespace Go.Proofs.YtpcmilhjpmlbpaaGreatDoor
open Go.RowKit Go.Shelf nm
theorem qp {P:Program}{id:Nat}{Q:Exit->Act->World->Prop}{a:Act}{w:World}{l:List Oper}(hm:P.follows .mixedOrders=true)(hB:Region.lexB .any l.toArray=true)
 (h:wpQuiet P l.toArray (λW=>∃p,W=gw w p) (λa'=>∀W,(∃p,W=gw w p)->Q .normal a' W) l a):(Code.region id l.toArray true).wp P Q a w:=
 wp_region_quiet (C:=λW=>∃p,W=gw w p) hm hB (gw_draw w) (by simpa using h)
def kR (w:World)(z:Nat)(qf:ByteArray)(rv sv tv:Value):Prop:=w.heap[z]? =some (.cells #[.string qf,rv,sv,tv] 117 (0,0))
namespace zn
def zq (bad:Nat->Bool)(n:Nat):Option Nat:=(List.range n).find? bad
theorem Xm {bad:Nat->Bool}{n k:Nat}(hk:k<n)(h:bad k=true)(hb:∀j,j<k->bad j=false):zq bad n=some k:=by
 unfold zq;rw[List.find?_eq_some_iff_getElem];exact⟨h,k,by simpa using hk,by simp,λj hj=>by simp[hb j hj]⟩
theorem vX {bad:Nat->Bool}{n:Nat}(h:∀j,j<n->bad j=false):zq bad n=none:=by
 unfold zq;rw[List.find?_eq_none];intro x hx;rw[h x (List.mem_range.1 hx)];simp
def jT (r:Rec):Bool:=!(qo r.owner && decide (r.cls=1) && decide (0<=r.ttl) && decide (r.ttl<=2147483647) && decide (dt.jh r.typ r.data=0))
def atB (l:List Rec)(f:Rec->Bool)(k:Nat):Bool:=match l[k]? with
 | some r=>f r
 | none=>false
theorem uP {l:List Rec}{f:Rec->Bool}{k:Nat}(h:k<l.length):atB l f k=f l[k]:=by
 unfold atB;rw[List.getElem?_eq_getElem h]
def kz (qf:ByteArray)(l:List Rec):Option (Int×Int):=
 match zq (atB l jT) l.length with
 | some k=>some (k,8)
 | none=>match zq (atB l λr=>!zI r.owner qf) l.length with
   | some k=>some (k,5)
   | none=>none
end zn
def Thrown (o:Option (Int×Int))(e:Ending):Prop:=match o with
 | some (k,c)=>e= .panicked [{ v:=vk k c,recovered:=false}]
 | none=>e= .returned (.tuple #[])
theorem uF {n:Nat}{code:Int}{bad:Nat->Bool}{Inv:Nat->World->Prop}{e:Ending}{w':World}(h:JV n code bad Inv e w'):
 (∃k:Nat,zn.zq bad n=some k/\k<n/\e= .panicked [{ v:=vk k code,recovered:=false}]/\Inv (k+1) w')\/(zn.zq bad n=none/\(∀j,j<n->bad j=false)/\e= .returned (.tuple #[])/\Inv n w'):=by
 rcases h with⟨k,h1,h2,h3,h4,h5⟩|⟨h1,h2,h3⟩
 ·exact .inl ⟨k,zn.Xm h1 h2 h3,h1,h4,h5⟩
 ·exact .inr ⟨zn.vX h1,h1,h2,h3⟩
theorem plain1_any (k:Int)(r:Rec)(w:World):Calls Tryz.prog 111 #[.int .i64 k,yf r] w λe w'=>e= .returned (.bool (zn.jT r))/\Below w.heap.size w w':=by
 have hB:=qe ((gJ _ w).alloc (gI _) (.cells (recC r).toArray 80))
 cases hc:qo r.owner
 ·have hr:zn.jT r=true:=by unfold zn.jT;rw[hc];rfl
  have HR:=qe hr;have HC:=qe hc;clear hr hc
  go_enter Tryz.func111,Tryz.ntmps111
  go_wp2_with fail;refine(zy _ _).mono ?_;rintro e w1 ⟨rfl,hB1⟩;rw[HC.out,Yr];go_wp2_with fail;go_ret;exact⟨qI HR.out.symm,hB.out.trans (hB1.mono hB.out.size)⟩
 ·by_cases h1:r.cls=1
  ·have b1:(r.cls != 1)=false:=by rw[h1];rfl
   by_cases h2:0<=r.ttl
   ·by_cases h3:r.ttl<=2147483647
    ·have hr:zn.jT r= !decide (dt.jh r.typ r.data=0):=by unfold zn.jT;rw[hc,gF h1,gF h2,gF h3];rfl
     by_cases h4:dt.jh r.typ r.data=0
     ·rw[gF h4]at hr;have HR:=qe hr;have HC:=qe hc;have H1:=qe h1;have H4:=qe h4;clear hr hc h1 h4
      go_enter Tryz.func111,Tryz.ntmps111
      go_wp2_with fail;refine(zy _ _).mono ?_;rintro e w1 ⟨rfl,hB1⟩;rw[HC.out,vR];have hb2:=gm hB.out hB1;have c1:=(hB1.cell (p:=⟨w.heap.size,1,none⟩) (by simp)).trans (q8 w r 80 1 _ rfl);have c2:=(hB1.cell (p:=⟨w.heap.size,2,none⟩) (by simp)).trans (q8 w r 80 2 _ rfl);have c3:=(hB1.cell (p:=⟨w.heap.size,3,none⟩) (by simp)).trans (q8 w r 80 3 _ rfl);have c4:=(hB1.cell (p:=⟨w.heap.size,4,none⟩) (by simp)).trans (q8 w r 80 4 _ rfl);go_wp2_with fail;refine(vC _ _ _).mono ?_;rintro e w2 ⟨rfl,hB2⟩;rw[H4.out];go_wp2_with fail;go_ret;exact⟨qI (by rw[HR.out];simp;omega),hb2.trans (hB2.mono hb2.size)⟩
     ·rw[gp h4]at hr;have b4:(dt.jh r.typ r.data == 0)=false:=by rw[gG];exact h4
      have b5:(dt.jh r.typ r.data != 0)=true:=by rw[bne_iff_ne];exact h4
      have HR:=qe hr;have HC:=qe hc;have H1:=qe h1;clear hr hc h1 h4
      go_enter Tryz.func111,Tryz.ntmps111
      go_wp2_with fail;refine(zy _ _).mono ?_;rintro e w1 ⟨rfl,hB1⟩;rw[HC.out,vR];have hb2:=gm hB.out hB1;have c1:=(hB1.cell (p:=⟨w.heap.size,1,none⟩) (by simp)).trans (q8 w r 80 1 _ rfl);have c2:=(hB1.cell (p:=⟨w.heap.size,2,none⟩) (by simp)).trans (q8 w r 80 2 _ rfl);have c3:=(hB1.cell (p:=⟨w.heap.size,3,none⟩) (by simp)).trans (q8 w r 80 3 _ rfl);have c4:=(hB1.cell (p:=⟨w.heap.size,4,none⟩) (by simp)).trans (q8 w r 80 4 _ rfl);go_wp2_with fail;refine(vC _ _ _).mono ?_;rintro e w2 ⟨rfl,hB2⟩;go_wp2_with fail;go_ret;exact⟨qI (by rw[HR.out];rfl),hb2.trans (hB2.mono hb2.size)⟩
    ·have hr:zn.jT r=true:=by unfold zn.jT;rw[gp h3];simp
     have HR:=qe hr;have HC:=qe hc;have H1:=qe h1;clear hr hc h1
     go_enter Tryz.func111,Tryz.ntmps111
     go_wp2_with fail;refine(zy _ _).mono ?_;rintro e w1 ⟨rfl,hB1⟩;rw[HC.out,vR];have c2:=(hB1.cell (p:=⟨w.heap.size,2,none⟩) (by simp)).trans (q8 w r 80 2 _ rfl);have c3:=(hB1.cell (p:=⟨w.heap.size,3,none⟩) (by simp)).trans (q8 w r 80 3 _ rfl);go_wp2_with fail;go_ret;exact⟨qI HR.out.symm,hB.out.trans (hB1.mono hB.out.size)⟩
   ·have hr:zn.jT r=true:=by unfold zn.jT;rw[gp h2];simp
    have HR:=qe hr;have HC:=qe hc;have H1:=qe h1;clear hr hc h1
    go_enter Tryz.func111,Tryz.ntmps111
    go_wp2_with fail;refine(zy _ _).mono ?_;rintro e w1 ⟨rfl,hB1⟩;rw[HC.out,vR];have c2:=(hB1.cell (p:=⟨w.heap.size,2,none⟩) (by simp)).trans (q8 w r 80 2 _ rfl);have c3:=(hB1.cell (p:=⟨w.heap.size,3,none⟩) (by simp)).trans (q8 w r 80 3 _ rfl);go_wp2_with fail;go_ret;exact⟨qI HR.out.symm,hB.out.trans (hB1.mono hB.out.size)⟩
  ·have b1:(r.cls != 1)=true:=by rw[bne_iff_ne];exact h1
   have hr:zn.jT r=true:=by unfold zn.jT;rw[gp h1];simp
   have HR:=qe hr;have HC:=qe hc;clear hr hc h1
   go_enter Tryz.func111,Tryz.ntmps111
   go_wp2_with fail;refine(zy _ _).mono ?_;rintro e w1 ⟨rfl,hB1⟩;rw[HC.out,vR];have c2:=(hB1.cell (p:=⟨w.heap.size,2,none⟩) (by simp)).trans (q8 w r 80 2 _ rfl);go_wp2_with fail;go_ret;exact⟨qI HR.out.symm,hB.out.trans (hB1.mono hB.out.size)⟩
theorem plain2_any (k:Int)(r:Rec)(bx z:Nat)(qf:ByteArray)(rv sv tv:Value)(w:World)(hbx:w.cell? ⟨bx,0,none⟩=some (.pointer (some ⟨z,0,none⟩)))(hz:kR w z qf rv sv tv):
 Calls Tryz.prog 112 #[.int .i64 k,yf r,.pointer (some ⟨bx,0,none⟩)] w λe w'=>e= .returned (.bool (!zI r.owner qf))/\Below w.heap.size w w':=by
 have hB:=qe ((gJ _ w).alloc (gI _) (.cells (recC r).toArray 80));have e1:=qh (q8 w r 80 0 _ rfl);have e2:=qh (qx (.cells (recC r).toArray 80) hbx);have hz0:w.cell? ⟨z,0,none⟩=some (.string qf):=by rw[qg hz];rfl
 have e3:=qh (qx (.cells (recC r).toArray 80) hz0);have HZ:=qe hz;clear hbx hz hz0
 go_enter Tryz.func112,Tryz.ntmps112
 go_wp2_with fail;refine qp (by kernel_rfl) (by kernel_rfl) ?_
 repeat (refine Hu (λK hK=>?_);go_simp;first | (refine hK _ ?_;clear hK K) | (apply gW;refine⟨λ_=>?_,hK _ ?_⟩;(first | (go_at_call 113;exact qY (within_any _ _ _)));clear hK K))
 refine Hw ?_;intro W hW;have hBW:Below (w.heap.size+1) (w.alloc (.cells (recC r).toArray 80)) W:=by obtain⟨p,rfl⟩:=hW;simpa using qD (w.alloc (.cells (recC r).toArray 80)) p
 clear hW;go_wp2_with fail;go_ret;exact⟨rfl,hB.out.trans (hBW.mono (by omega))⟩
theorem XJ (args:Array Value)(w:World):(callFunc 111 args).run Tryz.prog w= .ok (.enter 111 args) w:=by kernel_rfl
theorem XI (args:Array Value)(w:World):(callFunc 112 args).run Tryz.prog w= .ok (.enter 112 args) w:=by kernel_rfl
theorem plain_any (qf:ByteArray)(l:List Rec)(hl:l.length<=2000)(z:Nat)(rv sv tv:Value)(w:World)(hz:kR w z qf rv sv tv)(hrv:ql w rv l):
 Calls Tryz.prog 76 #[.pointer (some ⟨z,0,none⟩)] w λe w'=>Thrown (zn.kz qf l) e/\Below w.heap.size w w':=by
 obtain⟨w1,hw1⟩:=yM (w.alloc (.cells #[.pointer (some ⟨z,0,none⟩)] 43));have hB1:Below w.heap.size w w1:=by rw[hw1];exact(gJ _ w).alloc (gI _) _
 have hbx:w1.cell? ⟨w.heap.size,0,none⟩=some (.pointer (some ⟨z,0,none⟩)):=by rw[hw1,qg (qz rfl)];rfl
 have hs1:w1.heap.size=w.heap.size+1:=by rw[hw1];simp
 have hz1:kR w1 z qf rv sv tv:=(hB1.block z (qA hz)).trans hz;have hr1:ql w1 rv l:=hrv.below hB1;have hzc:w1.cell? ⟨z,1,none⟩=some rv:=by rw[qg hz1];rfl
 have hzl:=qA hz1
 have first:=JH 111 #[] XJ 8 l hl rv (zn.atB l zn.jT) (λ_ W=>Below w1.heap.size w1 W)
  (λ_ W h=>hr1.below h) (λ_ W W' h h'=>h.trans (h'.mono h.size)) (λk hk W h=>by
   refine(plain1_any k l[k] W).mono ?_;rintro e W' ⟨rfl,hb⟩;exact⟨by rw[zn.uP hk],h.trans (hb.mono h.size)⟩)
 have second:=λW0 (h0:Below w1.heap.size w1 W0)=>JH 112 #[.pointer (some ⟨w.heap.size,0,none⟩)] XI 5 l hl rv (zn.atB l λr=>!zI r.owner qf) (λ_ W=>Below w1.heap.size w1 W)
  (λ_ W h=>hr1.below h) (λ_ W W' h h'=>h.trans (h'.mono h.size)) (λk hk W h=>by
   refine(plain2_any k l[k] w.heap.size z qf rv sv tv W ((h.cell (p:=⟨w.heap.size,0,none⟩) (by show w.heap.size<w1.heap.size;omega)).trans hbx) ((h.block z hzl).trans hz1)).mono ?_;rintro e W' ⟨rfl,hb⟩;exact⟨by rw[zn.uP hk],h.trans (hb.mono h.size)⟩) W0 h0
 have HF:=qe first;have HS:=qe second;have HW:=qe hw1
 have HZ:=qe hz;have HZ1:=qe hz1;have HR:=qe hrv;have HR1:=qe hr1;have hzw:w.cell? ⟨z,1,none⟩=some rv:=by rw[qg hz];rfl
 have hza:=λo=>qx (W:=w) o hzw;clear first second hz hz1 hrv hr1 hw1
 go_enter Tryz.func76,Tryz.ntmps76
 go_wp2_with fail;rw[<- HW.out];clear hza hzw;refine(HF.out w1 (gJ _ _)).mono ?_;intro e w2 hp;rcases uF hp with⟨k,hfb,hk,rfl,hB2⟩|⟨hfb,_,rfl,hB2⟩
 ·have hres:zn.kz qf l=some ((k:Int),8):=by unfold zn.kz;rw[hfb]
  have zK:=qe hres;clear hp hfb hres;go_wp2_with fail;exact⟨rfl,(by rw[zK.out];rfl),hB1.trans (hB2.mono (by omega))⟩
 ·have c1:=(hB2.cell (p:=⟨w.heap.size,0,none⟩) (by show w.heap.size<w1.heap.size;omega)).trans hbx;have c2:=(hB2.cell (p:=⟨z,1,none⟩) hzl).trans hzc;have HFB:=qe hfb;clear hp hfb;go_wp2_with fail;refine(HS.out w2 hB2).mono ?_;intro e w3 hp;rcases uF hp with⟨k,hfb,hk,rfl,hB3⟩|⟨hfb,_,rfl,hB3⟩
  ·have hres:zn.kz qf l=some ((k:Int),5):=by unfold zn.kz;rw[HFB.out];simp only[hfb]
   have zK:=qe hres;clear hp hfb hres;go_wp2_with fail;exact⟨rfl,(by rw[zK.out];rfl),hB1.trans (hB3.mono (by omega))⟩
  ·have hres:zn.kz qf l=none:=by unfold zn.kz;rw[HFB.out];simp only[hfb]
   have zK:=qe hres;clear hp hfb hres;go_wp2_with fail
   go_end0
   exact⟨(by rw[zK.out];rfl),hB1.trans (hB3.mono (by omega))⟩
end Go.Proofs.YtpcmilhjpmlbpaaGreatDoor
namespace Go.Proofs.YtpcmilhjpmlbpaaGreatDoor
open Go.RowKit Go.WideMaps nm
abbrev Key:=ByteArray×Int
instance decMem {α:Type} [DecidableEq α] (a:α)(d:List α):Decidable (a∈d):=inferInstance
def qw (l:List Rec):List Value:=l.flatMap recC
theorem zM (l:List Rec):(qw l).length=l.length*5:=by
 unfold qw
 induction l with
 | nil=>rfl
 | cons r l ih=>rw[List.flatMap_cons,gK,ih,Ha];simp;omega
theorem ko (l:List Rec)(r:Rec):qw (l ++ [r])=qw l ++ recC r:=by unfold qw;rw[List.flatMap_append];simp
theorem Vz:∀(l:List Rec) (k:Nat) (hk:k<l.length) (j:Nat) (v:Value),(recC l[k])[j]? =some v->(qw l)[k*5+j]? =some v
 | r :: l,0,hk,j,v,h=>by
   have hj:j<(recC r).length:=(List.getElem?_eq_some_iff.1 h).1;show(recC r ++ qw l)[0*5+j]? =some v;rw[Nat.zero_mul,Nat.zero_add,List.getElem?_append_left hj];exact h
 | r :: l,k+1,hk,j,v,h=>by
   show(recC r ++ qw l)[(k+1)*5+j]? =some v;rw[List.getElem?_append_right (by simp;omega)];have:=Vz l k (by simpa using hk) j v h;rw[<- this]
   congr 1
   simp;omega
def yB (w:World)(base sb:Nat)(dom:List Key)(F:Key->List Rec):Prop:=
 ∃val:Key->Value,ug Xy JP w sb dom val/\(∀κ∈dom,w.ownsRow base 80 5 (val κ) (F κ).length (qw (F κ)))/\(∀κ∈dom,∀κ'∈dom,κ≠κ'->(val κ).ownBlock≠(val κ').ownBlock)
section
variable {w w':World}{base sb:Nat}{dom:List Key}{F F':Key->List Rec}
theorem jJ {w:World}{base:Nat}{e:TypeId}{size:Nat}{v:Value}{n:Nat}{xs:List Value}(h:w.ownsRow base e size v n xs){b:Nat}{es:Array MapEntry}{c:Nat}(hb:w.heap[b]? =some (.map es c)):v.ownBlock≠some b:=λe=>by
 obtain⟨c',fz,hc⟩:=Lib.ownsRow_kind h b e;rw[hb]at hc
 cases hc
theorem qm {w w':World}{base:Nat}{e:TypeId}{size:Nat}{v:Value}{n:Nat}{xs:List Value}(h:w.ownsRow base e size v n xs)(hk:∀b,v.ownBlock=some b->w'.heap[b]? =w.heap[b]?):w'.ownsRow base e size v n xs:=by
 refine⟨h.1,?_⟩;rcases h.2 with hn | ⟨g,cap,cur,rfl,hb,hg,rest⟩
 ·exact .inl hn
 ·exact .inr ⟨g,cap,cur,rfl,hb,(hk g rfl).trans hg,rest⟩
theorem ug.Zb {α:Type}{zg:α->Value}{Kok:α->Prop}{w:World}{b:Nat}{dom:List α}{val:α->Value}(h:ug zg Kok w b dom val):∃es c,w.heap[b]? =some (.map es c):=by
 obtain⟨_,_,es,c,h1,_⟩:=h;exact⟨es,c,h1⟩
theorem ug.not_row {α:Type}{zg:α->Value}{Kok:α->Prop}{w:World}{b:Nat}{dom:List α}{val:α->Value}(h:ug zg Kok w b dom val){base:Nat}{e:TypeId}{size:Nat}{v:Value}{n:Nat}{xs:List Value}(hr:w.ownsRow base e size v n xs):v.ownBlock≠some b:=by
 obtain⟨es,c,hb⟩:=h.Zb;exact jJ hr hb
theorem yB.keep (h:yB w base sb dom F)(hk:∀b,base<=b\/b=sb->b<w.heap.size->w'.heap[b]? =w.heap[b]?):yB w' base sb dom F:=by
 obtain⟨val,h1,h2,h3⟩:=h;refine⟨val,h1.keep λo ho=>(hk sb (.inr rfl) (qA ho)).trans ho,λκ hκ=>?_,h3⟩;exact qm (h2 κ hκ) λb hb=>hk b (.inl ((h2 κ hκ).lt b hb).1) ((h2 κ hκ).lt b hb).2
theorem yB.alloc (h:yB w base sb dom F)(o:Obj):yB (w.alloc o) base sb dom F:=h.keep λb _ hb=>Below.heap_alloc w o b hb
theorem yB.below (h:yB w base sb dom F)(hb:Below w.heap.size w w'):yB w' base sb dom F:=h.keep λb _ hlt=>hb.block b hlt
theorem yB.congr (h:yB w base sb dom F)(hF:∀κ∈dom,F κ=F' κ):yB w base sb dom F':=by
 obtain⟨val,h1,h2,h3⟩:=h;exact⟨val,h1,λκ hκ=>by rw[<- hF κ hκ];exact h2 κ hκ,h3⟩
theorem yB.made (w:World)(base:Nat)(F:Key->List Rec):yB (w.alloc (.map #[] 0)) base w.heap.size [] F:=
 ⟨λ_=>.slice none 0 0,ug.made w Xy JP _,λκ h=>by simp at h,λκ h=>by simp at h⟩
theorem Vl (w:World):(zeroValue 31).run Tryz.prog w= .ok (.slice none 0 0) w:=by kernel_rfl
theorem Z5 (w:World):(zeroValue 3).run Tryz.prog w= .ok (.int .i64 0) w:=by kernel_rfl
theorem sets_entry {wh:World}(h:yB wh base sb dom F)(hk:∀b,b<wh.heap.size->w.heap[b]? =wh.heap[b]?){κ:Key}(hκ:JP κ)(r:Rec):
 ∃(v:Value) (n:Nat) (old:List Rec) (st:Nat) (w1:World),(Instr.mapEntry 114 (.map (some sb)) (Xy κ)).run Tryz.prog w= .ok (.tuple #[v,goInt st]) w1/\w.grownBy w1 (some sb)/\
  w1.ownsRow base 80 5 v n (qw old)/\old=(if κ∈dom then F κ else [])/\n=old.length/\(∀b,v.ownBlock=some b->base<=b/\b<wh.heap.size/\b≠sb)/\sb<wh.heap.size/\n<=((F κ).length)/\
  ∀g cap w2,w2.ownsRow base 80 5 (.slice (some ⟨g,0,none⟩) (n+1) cap) (n+1) (qw old ++ recC r)->w1.grownBy w2 v.ownBlock->(v.ownBlock=some g\/g=w1.heap.size)->
   ∃w3,(Instr.entryStore 114 (.map (some sb)) (.int .i64 (st:Int)) (.slice (some ⟨g,0,none⟩) (n+1) cap)).run Tryz.prog w2= .ok () w3/\w2.grownBy w3 (some sb)/\
    yB w3 base sb (uO dom κ) (λκ'=>if κ'=κ then old ++ [r] else F κ'):=by
 obtain⟨val,hM0,hR0,hD⟩:=h;have hM:ug Xy JP w sb dom val:=hM0.keep λo ho=>(hk sb (qA ho)).trans ho;have hR:∀κ∈dom,w.ownsRow base 80 5 (val κ) (F κ).length (qw (F κ)):=λκ hκ=>qm (hR0 κ hκ) λb hb=>hk b ((hR0 κ hκ).lt b hb).2;obtain⟨st,w1,hrun,hg1,_,hM1,hst⟩:=K9 keyE Tryz.underlying114 Vl hM hκ;obtain⟨es,c,hsb⟩:=hM.Zb;have hkeep1:∀κ'∈dom,w1.ownsRow base 80 5 (val κ') (F κ').length (qw (F κ')):=λκ' hκ'=>(hR κ' hκ').kept hg1 (.inr (jJ (hR κ' hκ') hsb));have hown1:w1.ownsRow base 80 5 (if κ∈dom then val κ else .slice none 0 0) (if κ∈dom then F κ else []).length (qw (if κ∈dom then F κ else [])):=by
  by_cases hd:κ∈dom
  ·rw[if_pos hd,if_pos hd];exact hkeep1 κ hd
  ·rw[if_neg hd,if_neg hd];exact gZ w1 base _ 5
 have hvs:(if κ∈dom then val κ else .slice none 0 0:Value).ownBlock≠some sb:=hM1.not_row hown1
 have hvb:∀b,(if κ∈dom then val κ else .slice none 0 0:Value).ownBlock=some b->base<=b/\b<wh.heap.size/\b≠sb:=λb hb=>by
  refine⟨(hown1.lt b hb).1,?_,λe=>hvs (e ▸ hb)⟩;by_cases hd:κ∈dom
  ·rw[if_pos hd]at hb;exact((hR0 κ hd).lt b hb).2
  ·rw[if_neg hd]at hb;cases hb
 have hnF:(if κ∈dom then F κ else []).length<=(F κ).length:=by split <;> simp
 refine⟨_,_,_,st,w1,hrun,hg1,hown1,rfl,rfl,hvb,hM0.lt,hnF,λg cap w2 hown2 hgrow hat=>?_⟩;have hs2:w2.heap[sb]? =w1.heap[sb]?:=hgrow.block sb hM1.lt (Ne.symm hvs);obtain⟨w3,hrun3,hg3,_,hM3⟩:=hst w2 (.slice (some ⟨g,0,none⟩) ((if κ∈dom then F κ else []).length+1) cap) hs2;obtain⟨es1,c1,hsb1⟩:=hM1.Zb
 have hgs:g≠sb:=λe=>by
  subst e;exact jJ hown2 (hs2.trans hsb1) rfl
 have Uc:∀κ'∈dom,κ'≠κ->(val κ').ownBlock≠some g/\((val κ').ownBlock=none\/(val κ').ownBlock≠(if κ∈dom then val κ else .slice none 0 0:Value).ownBlock):=λκ' hκ' hne=>by
  by_cases hd:κ∈dom
  ·rw[if_pos hd]at hat ⊢;have h1:=hD κ' hκ' κ hd hne;refine⟨?_,.inr h1⟩;rcases hat with hat | hat
   ·rw[<- hat];exact h1
   ·intro e;have:=((hkeep1 κ' hκ').lt g e).2;omega
  ·rw[if_neg hd]at hat ⊢;rcases hat with hat | hat
   ·cases hat
   ·refine⟨λe=>?_,?_⟩
    ·have:=((hkeep1 κ' hκ').lt g e).2;omega
    ·cases hv:(val κ').ownBlock with
     | none=>exact .inl rfl
     | some b=>exact .inr (by simp[Value.ownBlock])
 have hmem:∀κ'∈uO dom κ,κ'≠κ->κ'∈dom:=λκ' h hne=>by
  unfold uO at h
  split at h
  ·exact h
  ·rcases List.mem_append.1 h with h | h
   ·exact h
   ·exact absurd (List.mem_singleton.1 h) hne
 refine⟨w3,hrun3,hg3,_,hM3,λκ' hκ'=>?_,λκ1 h1 κ2 h2 hne=>?_⟩
 ·by_cases he:κ'=κ
  ·subst he;simp only[if_pos,Ya];rw[gK,ko];exact hown2.kept hg3 (.inr (by simpa[Value.ownBlock] using hgs))
  ·simp only[if_neg he,Ya];have hd:=hmem κ' hκ' he;have h2:=(hkeep1 κ' hd).kept hgrow ((Uc κ' hd he).2);exact h2.kept hg3 (.inr (hM1.not_row (hkeep1 κ' hd)))
 ·unfold Ya;by_cases e1:κ1=κ
  ·rw[if_pos e1];have e2:κ2≠κ:=λe=>hne (e1.trans e.symm);rw[if_neg e2];exact λe=>(Uc κ2 (hmem κ2 h2 e2) e2).1 e.symm
  ·rw[if_neg e1];by_cases e2:κ2=κ
   ·rw[if_pos e2];exact(Uc κ1 (hmem κ1 h1 e1) e1).1
   ·rw[if_neg e2];exact hD κ1 (hmem κ1 h1 e1) κ2 (hmem κ2 h2 e2) hne
end
theorem yB.grownMap {w w':World}{base sb tb:Nat}{dom:List Key}{F:Key->List Rec}(h:yB w base sb dom F)(hg:w.grownBy w' (some tb))(ht:∃es c,w.heap[tb]? =some (.map es c))(hne:sb≠tb):yB w' base sb dom F:=by
 obtain⟨es,c,hm⟩:=ht;obtain⟨val,h1,h2,h3⟩:=h;refine⟨val,h1.keep λo ho=>(hg.block sb (qA ho) (by simpa using hne)).trans ho,λκ hκ=>?_,h3⟩;exact(h2 κ hκ).kept hg (.inr (jJ (h2 κ hκ) hm))
namespace zn
def Jp (low:ByteArray)(m q:Nat):List ByteArray:=(List.range (m-q+1)).map λi:Nat=>zQ low ((m:Int)-i)
def yh (r:Rec):Key:=(qy r.owner,r.typ)
def Qu (l:List Rec):List Key:=l.foldl (λd r=>uO d (yh r)) []
def qJ (l:List Rec)(κ:Key):List Rec:=l.filter λr=>decide (yh r=κ)
def ups (c:Nat)(low:ByteArray):List ByteArray:=(List.range ((qM low).toNat-c+1)).map λi:Nat=>zQ low (qM low-i)
def VJ (d:List ByteArray)(l:List ByteArray):List ByteArray:=l.foldl uO d
def U3 (c:Nat)(l:List Rec):List ByteArray:=l.foldl (λd r=>if QC r then d else VJ d (ups c (qy r.owner))) []
theorem ups_part {low:ByteArray}{m:Nat}(h:qM low=m)(c:Nat):ups c low=Jp low m c:=by
 unfold ups Jp;rw[h,Int.toNat_natCast]
theorem partU_top {low:ByteArray}{m:Nat}(h:zQ low m=low):Jp low m m= [low]:=by
 unfold Jp;simp[h]
theorem partU_next {low:ByteArray}{m q:Nat}(h0:0<q)(h1:q<=m):Jp low m (q-1)=Jp low m q ++ [zQ low ((q-1:Nat):Int)]:=by
 unfold Jp;rw[show m-(q-1)+1=(m-q+1)+1 from by omega,List.range_succ,List.map_append]
 congr 1
 simp only[List.map_cons,List.map_nil,List.cons.injEq,and_true]
 congr 1
 omega
theorem partU_end {low:ByteArray}{m q c:Nat}(h1:q<=m)(h2:q<=c)(h3:c<=q\/q=m):Jp low m q=Jp low m c:=by
 unfold Jp;rw[show m-q=m-c from by omega]
theorem insAll_app (d a:List ByteArray)(n:ByteArray):VJ d (a ++ [n])=uO (VJ d a) n:=by unfold VJ;rw[List.foldl_append];rfl
theorem domS_app (l:List Rec)(r:Rec):Qu (l ++ [r])=uO (Qu l) (yh r):=by unfold Qu;rw[List.foldl_append];rfl
theorem domT_app (c:Nat)(l:List Rec)(r:Rec):U3 c (l ++ [r])=if QC r then U3 c l else VJ (U3 c l) (ups c (qy r.owner)):=by unfold U3;rw[List.foldl_append];rfl
theorem uV {α:Type} [DecidableEq α] {d:List α}{a b:α}:b∈uO d a↔b∈d\/b=a:=by
 unfold uO
 split
 ·rename_i h
  exact⟨.inl,λh'=>h'.elim id (λe=>e ▸ h)⟩
 ·rw[Hl,gY]
theorem mem_foldS:∀{l:List Rec} {d:List Key} {κ:Key},κ∈l.foldl (λd r=>uO d (yh r)) d↔κ∈d\/∃r∈l,yh r=κ
 | [],d,κ=>by simp
 | r :: l,d,κ=>by
   rw[List.foldl_cons,mem_foldS (l:=l),uV];constructor
   ·rintro((h | h) | ⟨x,hx,e⟩)
    ·exact .inl h
    ·exact .inr ⟨r,by simp,h.symm⟩
    ·exact .inr ⟨x,by simp[hx],e⟩
   ·rintro(h | ⟨x,hx,e⟩)
    ·exact .inl (.inl h)
    ·rcases List.mem_cons.1 hx with rfl | hx
     ·exact .inl (.inr e.symm)
     ·exact .inr ⟨x,hx,e⟩
theorem mem_domS {l:List Rec}{κ:Key}:κ∈Qu l↔∃r∈l,yh r=κ:=by
 unfold Qu;rw[mem_foldS];simp
theorem rowsS_app (l:List Rec)(r:Rec)(κ:Key):qJ (l ++ [r]) κ=if κ=yh r then qJ l κ ++ [r] else qJ l κ:=by
 unfold qJ;rw[List.filter_append];by_cases h:yh r=κ
 ·rw[if_pos h.symm];simp[h]
 ·rw[if_neg (λe=>h e.symm)];simp[h]
theorem Q9 {l:List Rec}{κ:Key}(h:κ∉Qu l):qJ l κ= []:=by
 unfold qJ;rw[List.filter_eq_nil_iff];intro r hr e;exact h (mem_domS.2 ⟨r,hr,by simpa using e⟩)
theorem rowsS_some {l:List Rec}{κ:Key}(h:κ∈Qu l):qJ l κ≠[]:=by
 obtain⟨r,hr,e⟩:=mem_domS.1 h;intro he;unfold qJ at he;rw[List.filter_eq_nil_iff]at he;exact he r hr (by simpa using e)
end zn
theorem yB.next {w:World}{base sb:Nat}{l:List Rec}{r:Rec}(h:yB w base sb (uO (zn.Qu l) (zn.yh r)) (λκ'=>if κ'=zn.yh r then(if zn.yh r∈zn.Qu l then zn.qJ l (zn.yh r) else []) ++ [r] else zn.qJ l κ')):
 yB w base sb (zn.Qu (l ++ [r])) (zn.qJ (l ++ [r])):=by
 rw[zn.domS_app];refine h.congr λκ _=>?_;rw[zn.rowsS_app];by_cases e:κ=zn.yh r
 ·rw[if_pos e,if_pos e];subst e;by_cases hd:zn.yh r∈zn.Qu l
  ·rw[if_pos hd]
  ·rw[if_neg hd,zn.Q9 hd]
 ·rw[if_neg e,if_neg e]
def yo (w:World)(tb:Nat)(dom:List ByteArray):Prop:=∃f:ByteArray->Int,ug Value.string xC w tb dom (λa=>.int .i64 (f a))
section
variable {w w':World}{tb:Nat}{dom:List ByteArray}
theorem yo.keep (h:yo w tb dom)(hk:tb<w.heap.size->w'.heap[tb]? =w.heap[tb]?):yo w' tb dom:=by
 obtain⟨f,h⟩:=h;exact⟨f,h.keep λo ho=>(hk (qA ho)).trans ho⟩
theorem yo.below (h:yo w tb dom)(hb:Below w.heap.size w w'):yo w' tb dom:=h.keep λhlt=>hb.block tb hlt
theorem yo.grown (h:yo w tb dom){row:Option Nat}(hg:w.grownBy w' row)(hne:row≠some tb):yo w' tb dom:=h.keep λhlt=>hg.block tb hlt (Ne.symm hne)
theorem yo.Zb (h:yo w tb dom):∃es c,w.heap[tb]? =some (.map es c):=by
 obtain⟨_,h⟩:=h;exact h.Zb
theorem yo.made (w:World):yo (w.alloc (.map #[] 0)) w.heap.size []:=⟨λ_=>0,ug.made w _ _ _⟩
theorem V3 (h:yo w tb dom){n:ByteArray}(hn:n.size<=maxLen):∃x:Int,(Instr.lookup 115 (.map (some tb)) (.string n) false).run Tryz.prog w= .ok (.int .i64 x) w/\
 ∀y:Int,∃w1,(Instr.mapUpdate 115 (.map (some tb)) (.string n) (.int .i64 y)).run Tryz.prog w= .ok () w1/\w.grownBy w1 (some tb)/\yo w1 tb (uO dom n):=by
 obtain⟨f,h⟩:=h;refine⟨if n∈dom then f n else 0,?_,λy=>?_⟩
 ·rw[Q0 strE Tryz.underlying115 Z5 h hn]
  split <;> rfl
 ·obtain⟨w1,h1,h2,_,h3⟩:=Xh strE Tryz.underlying115 h hn (.int .i64 y);refine⟨w1,h1,h2,λa=>if a=n then y else f a,h3.congr λa _=>?_⟩;unfold Ya;by_cases e:a=n
  ·simp[e]
  ·simp[e]
end
open Go.Shelf
theorem kT:(Tryz.prog.info? 80).map (λi=>(i.zero,i.size,i.bytes))=some (some (.agg #[.string ⟨#[]⟩,.int .i64 0,.int .i64 0,.int .i64 0,.string ⟨#[]⟩]),5,56):=by kernel_rfl
theorem gather_any (qf:ByteArray)(hap:qo qf=true)(l:List Rec)(hl:l.length<=2000)(hok:∀r∈l,qo r.owner=true/\(Lit.int .i64 r.typ).wf=true)(z:Nat)(rv sv tv:Value)(w:World)
 (hz:kR w z qf rv sv tv) (hrec:∀w',w.grownBy w' (some z)->ql w' rv l):
 Calls Tryz.prog 77 #[.pointer (some ⟨z,0,none⟩)] w λe w'=>e= .returned (.tuple #[])/\w.grownBy w' (some z)/\∃sb tb,w.heap.size<=sb/\w.heap.size<=tb/\sb≠tb/\
  kR w' z qf rv (.map (some sb)) (.map (some tb))/\yB w' w.heap.size sb (zn.Qu l) (zn.qJ l)/\yo w' tb (zn.U3 (qM qf).toNat l):=by
 have hzl:=qA hz;obtain⟨a,cap,rfl,hcap,_⟩:=hrec w (World.grownBy.refl w _);obtain⟨wx,hwx⟩:=yM (((w.setCell ⟨z,2,none⟩ (.map (some w.heap.size))).setCell ⟨z,3,none⟩ (.map (some (w.heap.size+1)))));have hsx:wx.heap.size=w.heap.size:=by rw[hwx];simp[World.setCell]
 have hzx:kR wx z qf (.slice a l.length cap) (.map (some w.heap.size)) (.map (some (w.heap.size+1))):=by
  rw[hwx];exact qC (qC hz 2 _) 3 _
 have hgx:w.grownBy wx (some z):=by
  rw[hwx];exact(grownBy_setCell _ ⟨z,2,none⟩ _).trans (grownBy_setCell _ ⟨z,3,none⟩ _)
 obtain⟨w0,hw0⟩:=yM ((wx.alloc (.map #[] 0)).alloc (.map #[] 0));have hs0:w0.heap.size=w.heap.size+2:=by rw[hw0];simp[hsx]
 have hz0:kR w0 z qf (.slice a l.length cap) (.map (some w.heap.size)) (.map (some (w.heap.size+1))):=by
  rw[hw0];exact zi (zi hzx (.map #[] 0)) (.map #[] 0)
 have hg0:w.grownBy w0 (some z):=by
  rw[hw0];exact(hgx.trans (World.grownBy_alloc _ _ _)).trans (World.grownBy_alloc _ _ _)
 have hS0:yB w0 w.heap.size w.heap.size (zn.Qu (l.take 0)) (zn.qJ (l.take 0)):=by
  rw[hw0];have h1:=yB.made wx w.heap.size (zn.qJ (l.take 0));rw[hsx]at h1;exact h1.alloc _
 have hT0:yo w0 (w.heap.size+1) (zn.U3 (qM qf).toNat (l.take 0)):=by
  rw[hw0];have h1:=yo.made (wx.alloc (.map #[] 0));have h2:(wx.alloc (.map #[] 0)).heap.size=w.heap.size+1:=by simp[hsx]
  rw[h2]at h1;exact h1
 have hrecs:∀W,Below w.heap.size w0 W->ql W (.slice a l.length cap) l:=λW hb=>hrec W ⟨hb.os.trans hg0.os,hb.tape.trans hg0.tape,hb.output.trans hg0.output,by have:=hb.size;omega,λk hk hne=>(hb.block k hk).trans (hg0.block k hk hne)⟩;have hzc:w.cell? ⟨z,2,none⟩=some sv:=by rw[qg hz];rfl
 have hzd:w.cell? ⟨z,3,none⟩=some tv:=by rw[qg hz];rfl
 have hzh:w.frozen? ⟨z,2,none⟩=false:=qB hz 2;have hzi:w.frozen? ⟨z,3,none⟩=false:=qB hz 3;have hmm:=@run_makeMap Tryz.prog;have hzr:w.cell? ⟨z,1,none⟩=some (.slice a l.length cap):=by rw[qg hz];rfl
 have HW:=qe hw0;have HX:=qe hwx;have HREC:=qe hrecs;have HZ0:=qe hz0;have HG0:=qe hg0;have HS0:=qe hS0;have HT0:=qe hT0;have HOK:=qe hok;have HZ:=qe hz;clear hz hrec hz0 hg0 hS0 hT0 hrecs hok hw0 hwx hzx hgx
 go_enter Tryz.func77,Tryz.ntmps77
 go_wp2_with fail;rw[<- HX.out,<- HW.out];clear hzc hzd hzh hzi hzr hmm
 go_loopw [20,3,4,5,6] (λkv _ _ _ _ wr=>∃k:Nat,k<=l.length/\kv= .int .i64 k/\Below w.heap.size w0 wr/\yB wr w.heap.size w.heap.size (zn.Qu (l.take k)) (zn.qJ (l.take k))/\yo wr (w.heap.size+1) (zn.U3 (qM qf).toNat (l.take k))) (λkv _ _ _ _ _=>l.length-(intOf kv).toNat)
 case atStart=>exact⟨0,gU _,rfl,gJ _ _,HS0.out,HT0.out⟩
 case round=>
  obtain⟨k,hk,rfl,hB,hS,hT⟩:=hrel;by_cases hlt:k<l.length
  ·obtain⟨a',cap',hv,_,hr⟩:=HREC.out wr hB;simp only[gL,true_and]at hv;obtain⟨rfl,rfl⟩:=hv;obtain⟨b,off,rfl,hbl,c0,c1,c2,c3,c4⟩:=hr k hlt;obtain⟨hck,hty⟩:=HOK.out l[k] (Ht hlt);have hBW:=hB;have HB:=qe hB;have HS:=qe hS;have HT:=qe hT;have HCK:=qe hck;have HTY:=qe hty;have hzw:w.heap.size<=wr.heap.size:=by have:=hB.size;omega
   clear hr hB hS hT hck hty hBW;go_wp2_with fail;refine(kU _ _).mono ?_;rintro e w2 ⟨rfl,hB2⟩;have k0:=(hB2.cell (p:=⟨wr.heap.size,0,none⟩) (by simp)).trans (q8 wr l[k] 80 0 _ rfl);have k1:=(hB2.cell (p:=⟨wr.heap.size,1,none⟩) (by simp)).trans (q8 wr l[k] 80 1 _ rfl);have k2:=(hB2.cell (p:=⟨wr.heap.size,2,none⟩) (by simp)).trans (q8 wr l[k] 80 2 _ rfl);have k3:=(hB2.cell (p:=⟨wr.heap.size,3,none⟩) (by simp)).trans (q8 wr l[k] 80 3 _ rfl);have k4:=(hB2.cell (p:=⟨wr.heap.size,4,none⟩) (by simp)).trans (q8 wr l[k] 80 4 _ rfl);have hs2:wr.heap.size+1<=w2.heap.size:=by have:=hB2.size;simpa using this
   have hBr2:Below wr.heap.size wr w2:=((gJ _ wr).alloc (gI _) _).trans (hB2.mono (by simp));have HB2:=qe hBr2;clear c0 c1 c2 c3 c4 hB2 hBr2;obtain⟨low,hlow⟩:=yM (qy l[k].owner);rw[<- hlow];obtain⟨w3,hw3⟩:=yM (w2.alloc (.cells #[.string low,.int .i64 l[k].typ] 140));have m0:w3.cell? ⟨w2.heap.size,0,none⟩=some (.string low):=by rw[hw3,qg (qz rfl)];rfl
   have m1:w3.cell? ⟨w2.heap.size,1,none⟩=some (.int .i64 l[k].typ):=by rw[hw3,qg (qz rfl)];rfl
   have n0:w3.cell? ⟨wr.heap.size,0,none⟩=some (.string l[k].owner):=by rw[hw3];exact qx _ k0
   have n1:w3.cell? ⟨wr.heap.size,1,none⟩=some (.int .i64 l[k].typ):=by rw[hw3];exact qx _ k1
   have n2:w3.cell? ⟨wr.heap.size,2,none⟩=some (.int .i64 l[k].cls):=by rw[hw3];exact qx _ k2
   have n3:w3.cell? ⟨wr.heap.size,3,none⟩=some (.int .i64 l[k].ttl):=by rw[hw3];exact qx _ k3
   have n4:w3.cell? ⟨wr.heap.size,4,none⟩=some (.string l[k].data):=by rw[hw3];exact qx _ k4
   have hs3:w3.heap.size=w2.heap.size+1:=by rw[hw3];simp
   have hBr3:Below wr.heap.size wr w3:=by rw[hw3];exact HB2.out.alloc (by omega) _
   have hz3:w3.cell? ⟨z,2,none⟩=some (.map (some w.heap.size)):=by
    rw[hBr3.cell (by show z<wr.heap.size;omega),HB.out.cell (by show z<w.heap.size;omega),qg HZ0.out];rfl
   have HW3:=qe hw3;have Ja:=qe hlow;have HB3:=qe hBr3;clear hw3 hlow hBr3;go_wp2_with fail;rw[<- HW3.out];clear k0 k1 k2 k3 k4;obtain⟨wa,hwa⟩:=yM ((w3.alloc (.cells #[.string l[k].owner,.int .i64 l[k].typ,.int .i64 l[k].cls,.int .i64 l[k].ttl,.string l[k].data] 80)).drew);have hsa:wa.heap.size=w3.heap.size+1:=by rw[hwa];simp
   have hBa:Below w3.heap.size w3 wa:=by rw[hwa];exact((gJ _ w3).alloc (gI _) _).drew
   have hκ:JP (low,l[k].typ):=⟨by have:=fold_size l[k].owner;rw[<- Ja.out]at this;show low.size<=maxLen;unfold maxLen;omega,HTY.out⟩;obtain⟨v,n,old,st,w4,hrun4,hg4,uk,hold,hn,hvb,hsb,hnF,hstep⟩:=sets_entry (w:=wa) HS.out (λb hb=>(hBa.block b (by omega)).trans ((HB3.out.block b hb))) hκ l[k]
   have far4:∀(x:Addr) u,x.block<w3.heap.size->x.block≠w.heap.size->w3.cell? x=some u->w4.cell? x=some u:=λx u h1 h2 h3=>by
    rw[hg4.cell_far x (by omega) (by simpa using h2),hBa.cell h1];exact h3
   have q0:=far4 ⟨z,2,none⟩ _ (by show z<_;omega) (by show z≠_;omega) hz3;have q1:=far4 ⟨w2.heap.size,0,none⟩ _ (by show w2.heap.size<_;omega) (by show w2.heap.size≠_;omega) m0;have q2:=far4 ⟨w2.heap.size,1,none⟩ _ (by show w2.heap.size<_;omega) (by show w2.heap.size≠_;omega) m1;have q3:=far4 ⟨wr.heap.size,0,none⟩ _ (by show wr.heap.size<_;omega) (by show wr.heap.size≠_;omega) n0;have q4:=far4 ⟨wr.heap.size,1,none⟩ _ (by show wr.heap.size<_;omega) (by show wr.heap.size≠_;omega) n1;have q5:=far4 ⟨wr.heap.size,2,none⟩ _ (by show wr.heap.size<_;omega) (by show wr.heap.size≠_;omega) n2;have q6:=far4 ⟨wr.heap.size,3,none⟩ _ (by show wr.heap.size<_;omega) (by show wr.heap.size≠_;omega) n3;have q7:=far4 ⟨wr.heap.size,4,none⟩ _ (by show wr.heap.size<_;omega) (by show wr.heap.size≠_;omega) n4;rw[hwa]at hrun4;have hn2:n<=2000:=by
    have h1:(zn.qJ (l.take k) (low,l[k].typ)).length<=(l.take k).length:=List.length_filter_le _ _;have h2:(l.take k).length<=l.length:=by simp;omega
    omega
   have hs4:w3.heap.size+1<=w4.heap.size:=by have:=hg4.size;omega
   have hnews:∀j u,(recC l[k])[j]? =some u->w4.cell? ((⟨w2.heap.size+1,0,none⟩:Addr).add j)=some u:=λj u hu=>by
    rw[<- hs3];have h1:wa.cell? ((⟨w3.heap.size,0,none⟩:Addr).add j)=some u:=by
     rw[hwa];exact ve w3 (recC l[k]) _ j u hu
    rw[hg4.cell_far _ (by rw[Addr.add_lit];show w3.heap.size<_;omega) (by rw[Addr.add_lit];simp;omega)];exact h1
   have Kr:∀(w5:World),w4.grownBy w5 v.ownBlock->∀(x:Addr) u,x.block<w4.heap.size->(x.block<w.heap.size\/wr.heap.size<=x.block)->w4.cell? x=some u->w5.cell? x=some u:=λw5 hg x u h1 h2 h3=>by
    rw[hg.cell_far x h1 (λe=>by obtain⟨e1,e2,e3⟩:=hvb _ e.symm;omega)];exact h3
   have Kq:∀(w5 w6:World),w5.grownBy w6 (some w.heap.size)->∀(x:Addr) u,x.block<w5.heap.size->x.block≠w.heap.size->w5.cell? x=some u->w6.cell? x=some u:=λw5 w6 hg x u h1 h2 h3=>by
    rw[hg.cell_far x h1 (by simpa using h2)];exact h3
   obtain⟨i0,hi0,hzz0,hzz1,hzz2⟩:=info_parts kT;have xN:=qe hnews;have HF5:=qe Kr;have HF6:=qe Kq;clear hnews Kr Kq;have HG4:=qe hg4;have HOWN4:=qe uk;have HSTEP:=qe hstep;have HVB:=qe hvb;have HOLD:=qe hold;have HN:=qe hn;have HBA:=qe hBa;have HF4:=qe far4;have HWA:=qe hwa;clear hg4 uk hstep hvb hold hn hBa far4 hwa
   go_region_held3 (λW=>W.cell? ⟨z,2,none⟩=some (.map (some w.heap.size))/\W.cell? ⟨w2.heap.size,0,none⟩=some (.string low)/\W.cell? ⟨w2.heap.size,1,none⟩=some (.int .i64 l[k].typ)/\
    W.cell? ⟨wr.heap.size,0,none⟩=some (.string l[k].owner)/\W.cell? ⟨wr.heap.size,1,none⟩=some (.int .i64 l[k].typ)/\W.cell? ⟨wr.heap.size,2,none⟩=some (.int .i64 l[k].cls)/\
    W.cell? ⟨wr.heap.size,3,none⟩=some (.int .i64 l[k].ttl)/\W.cell? ⟨wr.heap.size,4,none⟩=some (.string l[k].data))
    (first | (refine⟨?_,?_,?_,?_,?_,?_,?_,?_⟩ <;> assumption) | go_keep)
    (first | (refine step_append_lies _ (by rfl) _ _ _ (by rfl) w.heap.size 80 i0 _ 5 56 Tryz.underlying31 hi0 hzz0 hzz1 hzz2 rfl (by omega) v n (qw old) (by rfl) HOWN4.out ⟨w2.heap.size+1,0,none⟩ 1 1 (recC l[k]) (by rfl) (by rfl) xN.out (by simp[Value.oneCell']) (by omega) (by unfold maxLen;omega) (by omega) (by omega) w4.heap.size rfl ?_
              intro g cap w5 hown5 QD hat5 hlt5;obtain⟨w6,hrun6,hg6,hS6⟩:=HSTEP.out g cap w5 hown5 QD hat5;have pq0:=HF5.out w5 QD ⟨z,2,none⟩ _ (by show z<w4.heap.size;omega) (by show z<w.heap.size\/wr.heap.size<=z;omega) q0;have pq1:=HF5.out w5 QD ⟨w2.heap.size,0,none⟩ _ (by show w2.heap.size<w4.heap.size;omega) (by show w2.heap.size<w.heap.size\/wr.heap.size<=w2.heap.size;omega) q1;have pq2:=HF5.out w5 QD ⟨w2.heap.size,1,none⟩ _ (by show w2.heap.size<w4.heap.size;omega) (by show w2.heap.size<w.heap.size\/wr.heap.size<=w2.heap.size;omega) q2;have pq3:=HF5.out w5 QD ⟨wr.heap.size,0,none⟩ _ (by show wr.heap.size<w4.heap.size;omega) (by show wr.heap.size<w.heap.size\/wr.heap.size<=wr.heap.size;omega) q3;have pq4:=HF5.out w5 QD ⟨wr.heap.size,1,none⟩ _ (by show wr.heap.size<w4.heap.size;omega) (by show wr.heap.size<w.heap.size\/wr.heap.size<=wr.heap.size;omega) q4;have pq5:=HF5.out w5 QD ⟨wr.heap.size,2,none⟩ _ (by show wr.heap.size<w4.heap.size;omega) (by show wr.heap.size<w.heap.size\/wr.heap.size<=wr.heap.size;omega) q5;have pq6:=HF5.out w5 QD ⟨wr.heap.size,3,none⟩ _ (by show wr.heap.size<w4.heap.size;omega) (by show wr.heap.size<w.heap.size\/wr.heap.size<=wr.heap.size;omega) q6;have pq7:=HF5.out w5 QD ⟨wr.heap.size,4,none⟩ _ (by show wr.heap.size<w4.heap.size;omega) (by show wr.heap.size<w.heap.size\/wr.heap.size<=wr.heap.size;omega) q7;have hs5:=QD.size;have rq0:=HF6.out w5 w6 hg6 ⟨z,2,none⟩ _ (by show z<w5.heap.size;omega) (by show z≠w.heap.size;omega) pq0;have rq1:=HF6.out w5 w6 hg6 ⟨w2.heap.size,0,none⟩ _ (by show w2.heap.size<w5.heap.size;omega) (by show w2.heap.size≠w.heap.size;omega) pq1;have rq2:=HF6.out w5 w6 hg6 ⟨w2.heap.size,1,none⟩ _ (by show w2.heap.size<w5.heap.size;omega) (by show w2.heap.size≠w.heap.size;omega) pq2;have rq3:=HF6.out w5 w6 hg6 ⟨wr.heap.size,0,none⟩ _ (by show wr.heap.size<w5.heap.size;omega) (by show wr.heap.size≠w.heap.size;omega) pq3;have rq4:=HF6.out w5 w6 hg6 ⟨wr.heap.size,1,none⟩ _ (by show wr.heap.size<w5.heap.size;omega) (by show wr.heap.size≠w.heap.size;omega) pq4;have rq5:=HF6.out w5 w6 hg6 ⟨wr.heap.size,2,none⟩ _ (by show wr.heap.size<w5.heap.size;omega) (by show wr.heap.size≠w.heap.size;omega) pq5;have rq6:=HF6.out w5 w6 hg6 ⟨wr.heap.size,3,none⟩ _ (by show wr.heap.size<w5.heap.size;omega) (by show wr.heap.size≠w.heap.size;omega) pq6;have rq7:=HF6.out w5 w6 hg6 ⟨wr.heap.size,4,none⟩ _ (by show wr.heap.size<w5.heap.size;omega) (by show wr.heap.size≠w.heap.size;omega) pq7;have HG5:=qe QD;have HG6:=qe hg6;have HS6:=qe hS6;clear hown5 QD hat5 hlt5 hg6 hS6))
   have hB6:Below w.heap.size w0 w6:=by
    have h1:Below w.heap.size w0 wa:=(HB.out.trans (HB3.out.mono hzw)).trans (HBA.out.mono (by omega));have h2:=h1.grown HG4.out (by omega) (λj e=>by cases e;exact gI _);have h3:=h2.grown HG5.out (by omega) (λj e=>(HVB.out j e).1);exact h3.grown HG6.out (by omega) (λj e=>by cases e;exact gI _)
   have hS7:yB w6 w.heap.size w.heap.size (zn.Qu (l.take (k+1))) (zn.qJ (l.take (k+1))):=by
    have h1:=HS6.out;have h2:(low,l[k].typ)=zn.yh l[k]:=by rw[Ja.out];rfl
    rw[HOLD.out,h2]at h1;rw[gV hlt];exact h1.next
   have hT6:yo w6 (w.heap.size+1) (zn.U3 (qM qf).toNat (l.take k)):=by
    have h1:yo wa (w.heap.size+1) (zn.U3 (qM qf).toNat (l.take k)):=HT.out.keep λhb=>(HBA.out.block _ (by omega)).trans (HB3.out.block _ hb);have h2:=h1.grown HG4.out (by simp)
    have h3:=h2.grown HG5.out (λe=>by
     obtain⟨es,c,hm⟩:=h2.Zb;exact jJ HOWN4.out hm e)
    exact h3.grown HG6.out (by simp)
   have hs6:w3.heap.size<=w6.heap.size:=by have h1:=HG5.out.size;have h2:=HG6.out.size;omega
   have HB6:=qe hB6;have HS7:=qe hS7;have HT6:=qe hT6;clear hB6 hS7 hT6 hrun4 hrun6 m0 m1 n0 n1 n2 n3 n4 hz3 q0 q1 q2 q3 q4 q5 q6 q7 pq0 pq1 pq2 pq3 pq4 pq5 pq6 pq7;clear HG4 HOWN4 HSTEP HVB HOLD HN HBA HF4 HWA xN HF5 HF6 HG5 HG6 HS6 hi0 hzz0 hzz1 hzz2;go_wp2_with fail;refine(signs_any _ _).mono ?_;rintro e w7 ⟨rfl,hB7⟩;have hz7:=(hB7.block z (by omega)).trans ((HB6.out.block z hzl).trans HZ0.out);have z3:w7.cell? ⟨z,3,none⟩=some (.map (some (w.heap.size+1))):=by rw[qg hz7];rfl
   have HB7:=qe (HB6.out.trans (hB7.mono (by omega)));have HS7:=qe (HS7.out.below hB7);have HT7:=qe (HT6.out.below hB7);have hs7:w6.heap.size<=w7.heap.size:=hB7.size;have HZ7:=qe hz7;clear hB7 hz7
   cases hsg:zn.QC l[k]
   ·have hlz:low.size<=maxLen:=by have:=fold_size l[k].owner;rw[<- Ja.out]at this;unfold maxLen;omega
    obtain⟨x,hx,hup⟩:=V3 HT7.out hlz;obtain⟨w8,hu,hg8,hT8⟩:=hup (wrap64 (x+1));have hS8:=HS7.out.grownMap hg8 HT7.out.Zb (by omega);have hB8:=HB7.out.grown hg8 (by omega) (λj e=>by cases e;omega);have HS8:=qe hS8;have HT8:=qe hT8;have HB8:=qe hB8;have HSG:=qe hsg;obtain⟨ls0,hls0⟩:=yO HCK.out;obtain⟨ls,hls⟩:∃ls,rows low=some ls:=⟨_,by rw[Ja.out];exact vL hls0⟩;obtain⟨la,hla⟩:=yO hap;have hca:qM qf=la.length:=Qw hla;have HLS:=qe hls;have HCA:=qe hca;clear hup hg8 hT8 hS8 hB8 hsg hls0 hls hla hca;go_wp2_with fail;clear hx hu;obtain⟨wo,hwo⟩:=yM wr;subst hwo
    go_loopw [6] (λnv wr=>∃q:Nat,q<=ls.length/\(la.length<=q\/q=ls.length)/\nv= .string (zQ low (q:Int))/\Below w.heap.size w0 wr/\yB wr w.heap.size w.heap.size (zn.Qu (l.take (k+1))) (zn.qJ (l.take (k+1)))/\
     yo wr (w.heap.size+1) (zn.VJ (zn.U3 (qM qf).toNat (l.take k)) (zn.Jp low ls.length q))) (λnv _=>match nv with | .string s=>(qM s).toNat | _=>0)
    case atStart=>exact⟨ls.length,gI _,.inr rfl,by rw[JW HLS.out],HB8.out,HS8.out,by rw[zn.partU_top (JW HLS.out)];exact HT8.out⟩
    case round=>
     obtain⟨q,hq,hqc,rfl,hBq,hSq,hTq⟩:=hrel;have hzq:=(hBq.block z hzl).trans HZ0.out;have z0:wr.cell? ⟨z,0,none⟩=some (.string qf):=by rw[qg hzq];rfl
     have z3:wr.cell? ⟨z,3,none⟩=some (.map (some (w.heap.size+1))):=by rw[qg hzq];rfl
     have e0:=qh z0;have hct:qM (zQ low (q:Int))=(q:Int):=count_tail HLS.out (by omega) (by omega);have HBQ:=qe hBq;have HSQ:=qe hSq;have HTQ:=qe hTq;have HCT:=qe hct;have HZQ:=qe hzq;clear hBq hSq hTq hct z0 hzq;go_wp2_with fail;refine qp (by kernel_rfl) (by kernel_rfl) ?_
     repeat (refine Hu (λK hK=>?_);go_simp;first | (refine hK _ ?_;clear hK K) | (apply gW;refine⟨λ_=>?_,hK _ ?_⟩;(first | (go_at_call 115;exact qY (YC _ _)));clear hK K))
     refine Hw ?_;intro W hW;rw[HCT.out,HCA.out];have hBW:Below wr.heap.size wr W:=by obtain⟨p,rfl⟩:=hW;exact qD wr p
     clear hW e0;have hsw:=HBQ.out.size;have hB9:=HBQ.out.trans (hBW.mono (by omega));have hS9:=HSQ.out.below hBW;have hT9:=HTQ.out.below hBW;have z3w:W.cell? ⟨z,3,none⟩=some (.map (some (w.heap.size+1))):=(hBW.cell (p:=⟨z,3,none⟩) (by show z<_;omega)).trans z3;have hszW:=hBW.size;have HB9:=qe hB9;have HS9:=qe hS9;have HT9:=qe hT9;clear hB9 hS9 hT9 hBW z3 HBQ HSQ HTQ;by_cases hlq:la.length<q
     ·have hpar:UE (zQ low (q:Int))=zQ low ((q-1:Nat):Int):=by
       rw[Xd HLS.out (by omega) (by omega)]
       congr 1
       omega
      have HPAR:=qe hpar;clear hpar;go_wp2_with fail;refine(parent_any _ _).mono ?_;rintro e wp ⟨rfl,hBp⟩;rw[HPAR.out];have z3p:wp.cell? ⟨z,3,none⟩=some (.map (some (w.heap.size+1))):=(hBp.cell (p:=⟨z,3,none⟩) (by show z<_;omega)).trans z3w;have hnz:(zQ low ((q-1:Nat):Int)).size<=maxLen:=by
       have:=(yc (uw HLS.out (k:=((q-1:Nat):Int)) (by omega) (by omega)).2).1;unfold maxLen;omega
      have hTp:=HT9.out.below hBp;obtain⟨y,hy,hup⟩:=V3 hTp hnz;obtain⟨wq,hu,hgq,hTq⟩:=hup (wrap64 y);have hSq:=(HS9.out.below hBp).grownMap hgq hTp.Zb (by omega);have hBq:=(HB9.out.trans (hBp.mono (by omega))).grown hgq (by have:=hBp.size;omega) (λj e=>by cases e;omega);have HTQ:=qe hTq;have HSQ:=qe hSq;have HBQ:=qe hBq;clear hup hgq hTq hSq hBq hTp hBp z3w hnz;go_wp2_with fail
      go_roundw
      case rel=>
       refine⟨q-1,by omega,by omega,rfl,HBQ.out,HSQ.out,?_⟩;rw[zn.partU_next (by omega) hq,zn.insAll_app];exact HTQ.out
      case measure=>
       show(qM (zQ low ((q-1:Nat):Int))).toNat<(qM (zQ low (q:Int))).toNat;rw[count_tail HLS.out (by omega) (by omega),count_tail HLS.out (by omega) (by omega)];omega
     ·go_wp2_with fail
      go_roundw
      case rel=>
       refine⟨k+1,by omega,by go_num,HB9.out,HS9.out,?_⟩;rw[gV hlt,zn.domT_app,HSG.out,if_neg (by simp)];have h1:=HT9.out;rw[zn.partU_end hq (by omega) hqc,<- zn.ups_part (Qw HLS.out),]at h1;rw[HCA.out]at h1 ⊢;rw[Ja.out]at h1;exact h1
      case measure=>simp[intOf];omega
   ·have HSG:=qe hsg;clear hsg;go_wp2_with fail
    go_roundw
    case rel=>exact⟨k+1,by omega,by go_num,HB7.out,HS7.out,by rw[gV hlt,zn.domT_app,if_pos HSG.out];exact HT7.out⟩
    case measure=>simp[intOf];omega
  ·have hke:k=l.length:=by omega
   subst hke;have hzq:=(hB.block z hzl).trans HZ0.out;rw[List.take_length]at hS hT;have hgf:w.grownBy wr (some z):=⟨hB.os.trans HG0.out.os,hB.tape.trans HG0.out.tape,hB.output.trans HG0.out.output,by have:=hB.size;omega,λj hj hne=>(hB.block j hj).trans (HG0.out.block j hj hne)⟩;have HS:=qe hS;have HT:=qe hT;have HZ:=qe hzq;have HG:=qe hgf;clear hS hT hzq hgf hB;go_wp2_with fail
   go_end0
   exact⟨rfl,HG.out,_,_,gI _,Nat.le_succ _,by omega,HZ.out,HS.out,HT.out⟩
def zt {α:Type} [DecidableEq α] (zg:α->Value)(Kok:α->Prop)(w:World)(b:Nat)(f:α->Int):Prop:=
 ∃(dom:List α) (g:α->Int),ug zg Kok w b dom (λa=>.int .i64 (g a))/\∀a,f a=if a∈dom then g a else 0
section
variable {α:Type} [DecidableEq α] {zg:α->Value}{Kok:α->Prop}{w w':World}{b:Nat}{f:α->Int}{k t:TypeId}
theorem zt.keep (h:zt zg Kok w b f)(hk:b<w.heap.size->w'.heap[b]? =w.heap[b]?):zt zg Kok w' b f:=by
 obtain⟨d,g,h1,h2⟩:=h;exact⟨d,g,h1.keep λo ho=>(hk (qA ho)).trans ho,h2⟩
theorem zt.below (h:zt zg Kok w b f)(hb:Below w.heap.size w w'):zt zg Kok w' b f:=h.keep λhlt=>hb.block b hlt
theorem zt.drew (h:zt zg Kok w b f):zt zg Kok w.drew b f:=h
theorem zt.alloc (h:zt zg Kok w b f)(o:Obj):zt zg Kok (w.alloc o) b f:=h.keep λhb=>Below.heap_alloc w o b hb
theorem zt.lt (h:zt zg Kok w b f):b<w.heap.size:=by obtain⟨_,_,h1,_⟩:=h;exact h1.lt
theorem zt.congr {f':α->Int}(h:zt zg Kok w b f)(hf:∀a,f a=f' a):zt zg Kok w b f':=by
 obtain⟨d,g,h1,h2⟩:=h;exact⟨d,g,h1,λa=>(hf a).symm.trans (h2 a)⟩
theorem zt.grown (h:zt zg Kok w b f){row:Option Nat}(hg:w.grownBy w' row)(hne:row≠some b):zt zg Kok w' b f:=h.keep λhlt=>hg.block b hlt (Ne.symm hne)
theorem zt.made (w:World)(zg:α->Value)(Kok:α->Prop):zt zg Kok (w.alloc (.map #[] 0)) w.heap.size (λ_=>0):=
 ⟨[],λ_=>0,ug.made w _ _ _,λa=>by simp⟩
theorem zt.look (K:KeyE Tryz.prog k zg Kok)(ht:Tryz.prog.underlying t=some (.map k 3))(h:zt zg Kok w b f){a:α}(ha:Kok a):
 (Instr.lookup t (.map (some b)) (zg a) false).run Tryz.prog w= .ok (.int .i64 (f a)) w:=by
 obtain⟨d,g,h1,h2⟩:=h;rw[Q0 K ht Z5 h1 ha,h2]
 split <;> rfl
theorem zt.put (K:KeyE Tryz.prog k zg Kok)(ht:Tryz.prog.underlying t=some (.map k 3))(h:zt zg Kok w b f){a:α}(ha:Kok a)(y:Int):
 ∃w1,(Instr.mapUpdate t (.map (some b)) (zg a) (.int .i64 y)).run Tryz.prog w= .ok () w1/\w.grownBy w1 (some b)/\zt zg Kok w1 b (λc=>if c=a then y else f c):=by
 obtain⟨d,g,h,h2⟩:=h;obtain⟨w1,h1,h3,_,h4⟩:=Xh K ht h ha (.int .i64 y);refine⟨w1,h1,h3,uO d a,λc=>if c=a then y else g c,h4.congr λc _=>?_,λc=>?_⟩
 ·unfold Ya;by_cases e:c=a
  ·simp[e]
  ·simp[e]
 ·by_cases e:c=a
  ·simp[e,zn.uV]
  ·simp[e,zn.uV,h2]
theorem zt.entry (K:KeyE Tryz.prog k zg Kok)(ht:Tryz.prog.underlying t=some (.map k 3))(h:zt zg Kok w b f){a:α}(ha:Kok a):
 ∃(st:Nat) (w1:World),(Instr.mapEntry t (.map (some b)) (zg a)).run Tryz.prog w= .ok (.tuple #[.int .i64 (f a),.int .i64 (st:Int)]) w1/\w.grownBy w1 (some b)/\zt zg Kok w1 b f/\
  ∀(y:Int),∃w3,(Instr.entryStore t (.map (some b)) (.int .i64 (st:Int)) (.int .i64 y)).run Tryz.prog w1= .ok () w3/\w1.grownBy w3 (some b)/\zt zg Kok w3 b (λc=>if c=a then y else f c):=by
 obtain⟨d,g,h,h2⟩:=h;obtain⟨st,w1,h1,h3,_,h4,h5⟩:=K9 K ht Z5 h ha;refine⟨st,w1,?_,h3,⟨uO d a,λc=>if c=a then f a else g c,h4.congr λc _=>?_,λc=>?_⟩,λy=>?_⟩
 ·rw[h1,h2]
  split <;> rfl
 ·unfold Ya;by_cases e:c=a
  ·subst e;simp only[if_true,h2]
   split <;> rfl
  ·simp[e]
 ·by_cases e:c=a
  ·simp[e,zn.uV]
  ·simp[e,zn.uV,h2]
 ·obtain⟨w3,g1,g2,_,g3⟩:=h5 w1 (.int .i64 y) rfl;refine⟨w3,g1,g2,uO d a,λc=>if c=a then y else g c,g3.congr λc _=>?_,λc=>?_⟩
  ·unfold Ya;by_cases e:c=a
   ·simp[e]
   ·simp[e]
  ·by_cases e:c=a
   ·simp[e,zn.uV]
   ·simp[e,zn.uV,h2]
end
theorem KF (D:Nat):∀(fs:List dt.Fld) (ps:List ByteArray),(∀p∈ps,p.size<=D)->(dt.zJ fs ps).length<=fs.length*D
 | [],_,_=>by simp[dt.zJ]
 | _ :: _,[],_=>by simp[dt.zJ]
 | f :: fs,p :: ps,h=>by
   have h1:=KF D fs ps λq hq=>h q (by simp[hq]);have h2:=dt.ZR f p;have h3:=h p (by simp);rw[dt.zJ,gK,Ha,Nat.add_mul,ba_len];omega
theorem foldD_size (t:Int)(d:ByteArray):(dt.ym t d).size<=maxLen:=by
 unfold dt.ym
 split
 ·rename_i hc
  have hd:d.size<=65535:=by
   unfold dt.jh at hc
   repeat' split at hc
   all_goals omega
  split
  ·unfold maxLen;omega
  ·rename_i fs hf
   split
   ·rename_i ps r hs
    obtain⟨_,_,h3⟩:=dt.YL fs d [] ps _ hs
    have h4:=KF 65535 fs ps λp hp=>by
     rcases h3 p hp with h | h
     ·cases h
     ·omega
    have h5:=dt.U1 t fs hf;have h6:fs.length*65535<=100*65535:=Nat.mul_le_mul_right _ h5;show(dt.zJ fs ps).toArray.size<=maxLen;rw[List.size_toArray];unfold maxLen;omega
   ·exact gU _
 ·exact gU _
namespace zn
def yJ (r:Rec):ByteArray×Int×ByteArray:=(qy r.owner,r.typ,dt.ym r.typ r.data)
end zn
theorem UZ {r:Rec}(h:(Lit.int .i64 r.typ).wf=true):YZ (zn.yJ r):=⟨by have:=fold_size r.owner;show(qy r.owner).size<=maxLen;unfold maxLen;omega,h,foldD_size _ _⟩
theorem kept_new {X Y:World}{o:Obj}(h:Below ((X.alloc o).drew).heap.size ((X.alloc o).drew) Y):Y.heap[X.heap.size]? =some o:=
 (h.block X.heap.size (by simp)).trans (qz rfl)
theorem kept_new' {X Y:World}{o:Obj}(h:Below (X.alloc o).heap.size (X.alloc o) Y):Y.heap[X.heap.size]? =some o:=
 (h.block X.heap.size (by simp)).trans (qz rfl)
theorem kept_old {X Y:World}{o:Obj}{b:Nat}(h:Below X.heap.size X Y)(hb:X.heap[b]? =some o):Y.heap[b]? =some o:=(h.block b (qA hb)).trans hb
theorem Ji {X:World}{b:Nat}{u0 u1 u2:Value}{t:TypeId}(h:X.heap[b]? =some (.cells #[u0,u1,u2] t (0,0))):
 X.cell? ⟨b,0,none⟩=some u0/\X.cell? ⟨b,1,none⟩=some u1/\X.cell? ⟨b,2,none⟩=some u2/\X.frozen? ⟨b,0,none⟩=false/\X.frozen? ⟨b,1,none⟩=false/\X.frozen? ⟨b,2,none⟩=false:=
 ⟨by rw[qg h];rfl,by rw[qg h];rfl,by rw[qg h];rfl,qB h 0,qB h 1,qB h 2⟩
theorem rules1_any (k:Int)(r:Rec)(hty:(Lit.int .i64 r.typ).wf=true)(sc m:Nat)(f:ByteArray×Int×ByteArray->Int)(c:Nat)(w:World)(hsc:w.cell? ⟨sc,0,none⟩=some (.map (some m)))(hne:sc≠m)(hm:zt KE YZ w m f)(hc:f (zn.yJ r)=c)(hcb:c<=2000):
 Calls Tryz.prog 117 #[.int .i64 k,yf r,.pointer (some ⟨sc,0,none⟩)] w λe w'=>e= .returned (.bool (decide (0<c)))/\w.grownBy w' (some m)/\zt KE YZ w' m (λa=>if a=zn.yJ r then((c+1:Nat):Int) else f a):=by
 have d0:=q8 w r 80 0 _ rfl;have d1:=q8 w r 80 1 _ rfl;have d4:=q8 w r 80 4 _ rfl;obtain⟨w1,hw1⟩:=yM (w.alloc (.cells (recC r).toArray 80));rw[<- hw1]at d0 d1 d4;have hs1:w1.heap.size=w.heap.size+1:=by rw[hw1];simp
 have hB1:Below w.heap.size w w1:=by rw[hw1];exact(gJ _ w).alloc (gI _) _
 have hall:∀X:World,Below w1.heap.size w1 X->Below w1.heap.size w1 X/\X.cell? ⟨w.heap.size,0,none⟩=some (.string r.owner)/\X.cell? ⟨w.heap.size,1,none⟩=some (.int .i64 r.typ)/\X.cell? ⟨w.heap.size,4,none⟩=some (.string r.data):=λX hX=>
  ⟨hX,(hX.cell (p:=⟨w.heap.size,0,none⟩) (by show w.heap.size<_;omega)).trans d0,(hX.cell (p:=⟨w.heap.size,1,none⟩) (by show w.heap.size<_;omega)).trans d1,(hX.cell (p:=⟨w.heap.size,4,none⟩) (by show w.heap.size<_;omega)).trans d4⟩
 have hscl:=Qe hsc;have HSC:=qe hsc;have HM:=qe hm;have HC:=qe hc;have HTY:=qe hty;have zk:=qe hall;have HW1:=qe hw1;have HB1:=qe hB1;have hml:=hm.lt;have HS1:=qe hs1;clear hsc hm hc hty hall hw1 hB1 hs1
 go_enter Tryz.func117,Tryz.ntmps117
 go_wp2_with fail;rw[<- HW1.out];go_upto_region 1 with fail
 go_cut [6] (λpv W=>∃b,pv= .pointer (some ⟨b,0,none⟩)/\w.heap.size<=b/\W.heap[b]? =some (.cells #[.string (qy r.owner),.int .i64 r.typ,.string (dt.ym r.typ r.data)] 179 (0,0))/\Below w.heap.size w W)
 case first=>
  go_region_held3 (λX=>Below w1.heap.size w1 X/\X.cell? ⟨w.heap.size,0,none⟩=some (.string r.owner)/\X.cell? ⟨w.heap.size,1,none⟩=some (.int .i64 r.typ)/\X.cell? ⟨w.heap.size,4,none⟩=some (.string r.data))
   (first | assumption | exact zk.out _ (gJ _ _).drew | (go_split_ands;exact zk.out _ (by assumption)) | (go_split_ands;exact zk.out _ (Below.alloc (by assumption) (Below.size (by assumption)) _)) | (go_split_ands;exact zk.out _ (Below.setCell (Below.setCell (Below.setCell (by assumption) (by simp only;omega) _) (by simp only;omega) _) (by simp only;omega) _)))
   (first
    | (go_at_call 101;refine(kU _ _).mono ?_;rintro e w3 ⟨rfl,hB3⟩;(first | (have nb3:=kept_new hB3) | (have nb3:=kept_new' hB3) | (have nb3:=True.intro));(try (have hx3:=Ji nb3;obtain⟨t0,t1,t2,t3,t4,t5⟩:=hx3));go_split_ands;have hB3n:=Below.trans (B:=w1.heap.size) (a:=w1) (by assumption) (hB3.mono (Below.size (by assumption)));have hz3:=Below.size hB3n)
    | (go_at_call 118;refine(dfold_any _ _ _).mono ?_;rintro e w4 ⟨rfl,hB4⟩;(first | (have nb4:=kept_new hB4) | (have nb4:=kept_new' hB4) | (have nb4:=kept_old hB4 nb3) | (have nb4:=True.intro));(try (have hx4:=Ji nb4;obtain⟨y0,y1,y2,y3,y4,y5⟩:=hx4));go_split_ands;have hB4n:=Below.trans (B:=w1.heap.size) (a:=w1) (by assumption) (hB4.mono (Below.size (by assumption)));have hz4:=Below.size hB4n))
  ·go_wp2_with fail;go_meet;have h1:=hB4n.alloc (Below.size hB4n) (.cells #[.string (qy r.owner),.int .i64 r.typ,.string (dt.ym r.typ r.data)] 179);have h2:=HS1.out;exact⟨_,rfl,by omega,qz rfl,HB1.out.trans (h1.mono (by omega))⟩
  ·go_wp2_with fail;go_meet;have h2:=HS1.out;exact⟨_,rfl,by omega,qC (qC (qC nb4 0 _) 1 _) 2 _,HB1.out.trans ((Below.setCell (Below.setCell (Below.setCell hB4n (by simp only;omega) _) (by simp only;omega) _) (by simp only;omega) _).mono (by omega))⟩
  ·go_wp2_with fail;go_meet;have h2:=HS1.out;exact⟨_,rfl,by omega,qC (qC (qC nb4 0 _) 1 _) 2 _,HB1.out.trans ((Below.setCell (Below.setCell (Below.setCell hB4n (by simp only;omega) _) (by simp only;omega) _) (by simp only;omega) _).mono (by omega))⟩
 case rest=>
  obtain⟨b,rfl,hb,hblk,hB⟩:=hcut;obtain⟨t0,t1,t2,_,_,_⟩:=Ji hblk;have s0:=(hB.cell (p:=⟨sc,0,none⟩) hscl).trans HSC.out;have hM2:=HM.out.below hB;have hlook:=hM2.drew.look fullE Tryz.underlying176 (UZ HTY.out);have hlook0:=hM2.look fullE Tryz.underlying176 (UZ HTY.out);obtain⟨st,w5,hrun5,hg5,hM5,hstep⟩:=hM2.drew.entry fullE Tryz.underlying176 (UZ HTY.out);have hlook5:=hM5.look fullE Tryz.underlying176 (UZ HTY.out);rw[HC.out]at hlook hlook0 hrun5 hlook5;have hbl:=qA hblk;have hbw:=hB.size
  have Kr:∀(x:Addr) u,x.block<wc.heap.size->x.block≠m->wc.cell? x=some u->w5.cell? x=some u:=λx u h1 h2 h3=>by
   rw[hg5.cell_far x h1 (by simpa using h2)];exact h3
  have q0:=Kr ⟨sc,0,none⟩ _ (by show sc<_;omega) (by show sc≠_;omega) s0;have q1:=Kr ⟨b,0,none⟩ _ (by show b<_;omega) (by show b≠_;omega) t0;have q2:=Kr ⟨b,1,none⟩ _ (by show b<_;omega) (by show b≠_;omega) t1;have q3:=Kr ⟨b,2,none⟩ _ (by show b<_;omega) (by show b≠_;omega) t2;have hw:IntKind.i64.wrap ((c:Int)+1)=(c:Int)+1:=Hg _ (by omega);obtain⟨w6,hrun6,hg6,hM6⟩:=hstep ((c:Int)+1);have hs5:=hg5.size
  have Kq:∀(x:Addr) u,x.block<wc.heap.size->x.block≠m->w5.cell? x=some u->w6.cell? x=some u:=λx u h1 h2 h3=>by
   rw[hg6.cell_far x (by exact gN h1 hs5) (by simpa using h2)];exact h3
  have r0:=Kq ⟨sc,0,none⟩ _ (by show sc<_;omega) (by show sc≠_;omega) q0;have r1:=Kq ⟨b,0,none⟩ _ (by show b<_;omega) (by show b≠_;omega) q1;have r2:=Kq ⟨b,1,none⟩ _ (by show b<_;omega) (by show b≠_;omega) q2;have r3:=Kq ⟨b,2,none⟩ _ (by show b<_;omega) (by show b≠_;omega) q3;have hlook6:=hM6.look fullE Tryz.underlying176 (UZ HTY.out);rw[if_pos rfl]at hlook6;simp only[zn.yJ,KE]at hlook hlook5 hlook6 hrun5 hrun6;have hgt:decide (1<(c:Int)+1)=decide (0<c):=by
   by_cases h:0<c
   ·rw[gF h];exact gF (by omega)
   ·rw[gp h];exact gp (by omega)
  have hres1:w.grownBy w6 (some m):=⟨hg6.os.trans (hg5.os.trans hB.os),hg6.tape.trans (hg5.tape.trans hB.tape),hg6.output.trans (hg5.output.trans hB.output),by have:=hg6.size;have h':wc.heap.size<=w5.heap.size:=hs5;omega,λj hj hne=>by
   have h':wc.heap.size<=w5.heap.size:=hs5;exact(hg6.block j (by omega) hne).trans ((hg5.block j (show j<wc.heap.size by omega) hne).trans (hB.block j hj))⟩
  have HG5:=qe hg5;have HG6:=qe hg6;have HM6:=qe hM6;have HB:=qe hB;have HGT:=qe hgt;have HR1:=qe hres1;clear hg5 hg6 hM6 hB hstep hM2 hM5 hblk Kr Kq hgt hres1 hlook0;go_wp2_with fail;go_upto_region 2 with fail
  go_cut [] (λwx=>wx=w6)
  case first=>
   go_region_held3 (λX=>X.cell? ⟨sc,0,none⟩=some (.map (some m))/\X.cell? ⟨b,0,none⟩=some (.string (qy r.owner))/\X.cell? ⟨b,1,none⟩=some (.int .i64 r.typ)/\X.cell? ⟨b,2,none⟩=some (.string (dt.ym r.typ r.data)))
    (first | (refine⟨?_,?_,?_,?_⟩ <;> assumption) | go_keep) (first | (fail))
   all_goals (go_wp2_with fail;go_meet;rfl)
  case rest=>
   subst hcut;clear hw hrun5 hrun6 hlook hlook5;go_wp2_with fail;go_ret;exact⟨qI HGT.out,HR1.out,HM6.out.congr λa=>by split <;> simp⟩
end Go.Proofs.YtpcmilhjpmlbpaaGreatDoor
