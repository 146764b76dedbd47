import Derived.Test.YtdjjemajfphjaaaGreatQRefU
import Derived.Test.YtdjjemajfphjaaaGreatQDataS
import Derived.Test.YtdjjemajfphjaaaGreatQRefP
import Derived.Test.YtdjjemajfphjaaaGreatQSerial
import Derived.Test.YtdjjemajfphjaaaGreatQRzE
import Derived.Test.YtdjjemajfphjaaaGreatQUpdV
import Derived.Test.YtdjjemajfphjaaaGreatQUpdU
import Derived.Test.YtdjjemajfphjaaaGreatQUpdE
import Derived.Deep.CutBlock
set_option maxRecDepth 100000
set_option maxHeartbeats 4000000
namespace Go.Proofs.YtdjjemajfphjaaaGreat
open Go.RowKit Go.Shelf nm od
namespace wi
def inB (v t:Int):Bool:=decide (0≤v∧v≤t)
theorem in_t {v t:Int}(h:inB v t=true):0≤v∧v≤t:=of_decide_eq_true h
def jT (x:Rec):Bool:=decide (x.data.size=0) && (decide (x.cls=254) || decide (x.cls=255))
def qR (x:Rec):Bool:=
 ql x.owner && inB x.typ 65535 && inB x.cls 65535 && inB x.ttl 4294967295 &&
  (if x.typ=41 then decide (x.data.size≤65535) else(jT x || decide (dt.yo x.typ x.data=0)))
theorem bad_name {x:Rec}(h:ql x.owner=false):qR x=false:=by simp[qR,h]
theorem bad_typ {x:Rec}(h:inB x.typ 65535=false):qR x=false:=by simp[qR,h]
theorem bad_cls {x:Rec}(h:inB x.cls 65535=false):qR x=false:=by simp[qR,h]
theorem bad_ttl {x:Rec}(h:inB x.ttl 4294967295=false):qR x=false:=by simp[qR,h]
theorem opt {x:Rec}(h0:ql x.owner=true)(h1:inB x.typ 65535=true)(h2:inB x.cls 65535=true)(h3:inB x.ttl 4294967295=true)(h4:x.typ=41):qR x=decide (x.data.size≤65535):=by
 unfold qR;rw[h0,h1,h2,h3,if_pos h4];rfl
theorem rest {x:Rec}(h0:ql x.owner=true)(h1:inB x.typ 65535=true)(h2:inB x.cls 65535=true)(h3:inB x.ttl 4294967295=true)(h4:x.typ≠41):qR x=(jT x || decide (dt.yo x.typ x.data=0)):=by
 unfold qR;rw[h0,h1,h2,h3,if_neg h4];rfl
end wi
theorem Y5 (v t:Int)(w:World):Calls Tryz.prog 68 #[.int .i64 v,.int .i64 t] w fun e w'=>e= .returned (.bool (wi.inB v t))∧w=w':=by
 by_cases h0:0≤v
 ·have d0:decide (0≤v)=true:=decide_eq_true h0
  by_cases h1:v≤t
  ·have d1:decide (v≤t)=true:=decide_eq_true h1
   have HR:=Lib.hid (show wi.inB v t=true from decide_eq_true ⟨h0,h1⟩)
   go_enter Tryz.func68,Tryz.ntmps68
   go_wp2_with fail
   go_ret
   exact⟨qA HR.out.symm,rfl⟩
  ·have d1:decide (v≤t)=false:=decide_eq_false h1
   have HR:=Lib.hid (show wi.inB v t=false from decide_eq_false fun h=>h1 h.2)
   go_enter Tryz.func68,Tryz.ntmps68
   go_wp2_with fail
   go_ret
   exact⟨qA HR.out.symm,rfl⟩
 ·have d0:decide (0≤v)=false:=decide_eq_false h0
  have HR:=Lib.hid (show wi.inB v t=false from decide_eq_false fun h=>h0 h.1)
  go_enter Tryz.func68,Tryz.ntmps68
  go_wp2_with fail
  go_ret
  exact⟨qA HR.out.symm,rfl⟩
theorem JV (x:Rec)(w:World):Calls Tryz.prog 69 #[zB x] w fun e w'=>e= .returned (.bool (wi.qR x))∧Below w.heap.size w w':=by
 obtain⟨w1,hw1⟩:∃X,X=w.alloc (.cells (recC x).toArray 51):=⟨_,rfl⟩
 obtain⟨hB1,hs1,hx1⟩:=qM w w1 x hw1
 have hlt1:w.heap.size<w1.heap.size:=by omega
 have HS1:=Lib.hid hs1
 clear hs1
 obtain⟨p0,p1,p2,p3,p4⟩:=id hx1
 have HW1:=Lib.hid hw1;have HB1:=Lib.hid hB1;have HX1:=Lib.hid hx1
 clear hw1 hB1 hx1
 go_enter Tryz.func69,Tryz.ntmps69
 go_upto_region 1 with fail
 rw[← HW1.out]
 go_wp2_with fail
 refine(zz _ _).mono ?_
 rintro e w2 ⟨rfl,hB2⟩
 have HX2:=Lib.hid (HX1.out.keep (hB2.block w.heap.size hlt1))
 have HB2:=Lib.hid (HB1.out.trans (hB2.mono HB1.out.size))
 have hlt2:w.heap.size<w2.heap.size:=Nat.lt_of_lt_of_le hlt1 hB2.size
 clear hB2 p0 p1 p2 p3 p4
 obtain⟨p0,p1,p2,p3,p4⟩:=id HX2.out
 cases hc:ql x.owner
 ·have hr:=wi.bad_name hc
  rw[Yx]
  clear hc
  have HR:=Lib.hid hr
  clear hr
  go_wp2_with fail
  go_ret
  exact⟨qA HR.out.symm,HB2.out⟩
 ·rw[vQ]
  have HC:=Lib.hid hc
  clear hc
  go_wp2_with fail
  refine(Y5 _ _ _).mono ?_
  rintro e w3 ⟨rfl,rfl⟩
  obtain⟨b3,hb3⟩:∃b,b=wi.inB x.typ 65535:=⟨_,rfl⟩
  rw[← hb3]
  cases b3
  ·have hr:=wi.bad_typ hb3.symm
   clear hb3
   have HR:=Lib.hid hr
   clear hr
   go_wp2_with fail
   go_ret
   exact⟨qA HR.out.symm,HB2.out⟩
  have HI1:=Lib.hid hb3.symm
  clear hb3
  go_wp2_with fail
  refine(Y5 _ _ _).mono ?_
  rintro e w4 ⟨rfl,rfl⟩
  obtain⟨b4,hb4⟩:∃b,b=wi.inB x.cls 65535:=⟨_,rfl⟩
  rw[← hb4]
  cases b4
  ·have hr:=wi.bad_cls hb4.symm
   clear hb4
   have HR:=Lib.hid hr
   clear hr
   go_wp2_with fail
   go_ret
   exact⟨qA HR.out.symm,HB2.out⟩
  have HI2:=Lib.hid hb4.symm
  clear hb4
  go_wp2_with fail
  refine(Y5 _ _ _).mono ?_
  rintro e w5 ⟨rfl,rfl⟩
  obtain⟨b5,hb5⟩:∃b,b=wi.inB x.ttl 4294967295:=⟨_,rfl⟩
  rw[← hb5]
  cases b5
  ·have hr:=wi.bad_ttl hb5.symm
   clear hb5
   have HR:=Lib.hid hr
   clear hr
   go_wp2_with fail
   go_ret
   exact⟨qA HR.out.symm,HB2.out⟩
  have HI3:=Lib.hid hb5.symm
  clear hb5
  by_cases k4:x.typ=41
  ·have d4:(x.typ == 41)=true:=by rw[beq_iff_eq];exact k4
   have hr:=wi.opt HC.out HI1.out HI2.out HI3.out k4
   clear k4
   by_cases k5:x.data.size≤65535
   ·have d5:decide ((x.data.size:Int)≤65535)=true:=decide_eq_true (by omega)
    rw[decide_eq_true k5]at hr
    clear k5
    have HR:=Lib.hid hr
    clear hr
    go_wp2_with fail
    go_ret
    exact⟨qA HR.out.symm,HB2.out⟩
   ·have d5:decide ((x.data.size:Int)≤65535)=false:=decide_eq_false (by omega)
    rw[decide_eq_false k5]at hr
    clear k5
    have HR:=Lib.hid hr
    clear hr
    go_wp2_with fail
    go_ret
    exact⟨qA HR.out.symm,HB2.out⟩
  ·have d4:(x.typ == 41)=false:=by rw[beq_eq_false_iff_ne];exact k4
   have hr0:=wi.rest HC.out HI1.out HI2.out HI3.out k4
   clear k4
   have HR0:=Lib.hid hr0
   by_cases k5:x.data.size=0
   ·have d5:=yg k5
    by_cases k6:x.cls=254
    ·have d6:(x.cls == 254)=true:=by rw[beq_iff_eq];exact k6
     have hr:wi.qR x=true:=by rw[HR0.out,wi.jT,decide_eq_true k5,decide_eq_true k6];rfl
     clear hr0 k5 k6
     have HR:=Lib.hid hr
     clear hr
     go_wp2_with fail
     go_ret
     exact⟨qA HR.out.symm,HB2.out⟩
    ·have d6:(x.cls == 254)=false:=by rw[beq_eq_false_iff_ne];exact k6
     by_cases k7:x.cls=255
     ·have d7:(x.cls == 255)=true:=by rw[beq_iff_eq];exact k7
      have hr:wi.qR x=true:=by rw[HR0.out,wi.jT,decide_eq_true k5,decide_eq_true k7];simp
      clear hr0 k5 k6 k7
      have HR:=Lib.hid hr
      clear hr
      go_wp2_with fail
      go_ret
      exact⟨qA HR.out.symm,HB2.out⟩
     ·have d7:(x.cls == 255)=false:=by rw[beq_eq_false_iff_ne];exact k7
      have HEB:=Lib.hid (show wi.jT x=false by rw[wi.jT,decide_eq_false k6,decide_eq_false k7];simp)
      clear hr0 k5 k6 k7
      go_wp2_with fail
      refine(kQ _ _ _).mono ?_
      rintro e w3 ⟨rfl,hB3⟩
      have HB3:=Lib.hid (HB2.out.trans (hB3.mono HB2.out.size))
      clear hB3 p0 p1 p2 p3 p4
      by_cases t0:dt.yo x.typ x.data=0
      ·have e0:(dt.yo x.typ x.data == 0)=true:=by rw[beq_iff_eq];exact t0
       have hr:wi.qR x=true:=by rw[HR0.out,decide_eq_true t0];simp
       have T0:=Lib.hid t0
       clear t0
       have HR:=Lib.hid hr
       clear hr
       go_wp2_with fail
       go_ret
       exact⟨qA HR.out.symm,HB3.out⟩
      ·have e0:(dt.yo x.typ x.data == 0)=false:=by rw[beq_eq_false_iff_ne];exact t0
       have hr:wi.qR x=false:=by rw[HR0.out,decide_eq_false t0,HEB.out];rfl
       have T0:=Lib.hid t0
       clear t0
       have HR:=Lib.hid hr
       clear hr
       go_wp2_with fail
       go_ret
       exact⟨qA HR.out.symm,HB3.out⟩
   ·have d5:=yF k5
    have HEB:=Lib.hid (show wi.jT x=false by rw[wi.jT,decide_eq_false k5];rfl)
    clear hr0 k5
    go_wp2_with fail
    refine(kQ _ _ _).mono ?_
    rintro e w3 ⟨rfl,hB3⟩
    have HB3:=Lib.hid (HB2.out.trans (hB3.mono HB2.out.size))
    clear hB3 p0 p1 p2 p3 p4
    by_cases t0:dt.yo x.typ x.data=0
    ·have e0:(dt.yo x.typ x.data == 0)=true:=by rw[beq_iff_eq];exact t0
     have hr:wi.qR x=true:=by rw[HR0.out,decide_eq_true t0];simp
     have T0:=Lib.hid t0
     clear t0
     have HR:=Lib.hid hr
     clear hr
     go_wp2_with fail
     go_ret
     exact⟨qA HR.out.symm,HB3.out⟩
    ·have e0:(dt.yo x.typ x.data == 0)=false:=by rw[beq_eq_false_iff_ne];exact t0
     have hr:wi.qR x=false:=by rw[HR0.out,decide_eq_false t0,HEB.out];rfl
     have T0:=Lib.hid t0
     clear t0
     have HR:=Lib.hid hr
     clear hr
     go_wp2_with fail
     go_ret
     exact⟨qA HR.out.symm,HB3.out⟩
theorem rempty_any (x:Rec)(w:World):Calls Tryz.prog 135 #[zB x] w fun e w'=>e= .returned (.bool (wi.jT x))∧Below w.heap.size w w':=by
 have hB:=Lib.hid ((Below.refl _ w).alloc (Nat.le_refl _) (.cells (recC x).toArray 51))
 by_cases k5:x.data.size=0
 ·have d5:=yg k5
  by_cases k6:x.cls=254
  ·have d6:(x.cls == 254)=true:=by rw[beq_iff_eq];exact k6
   have HR:=Lib.hid (show wi.jT x=true by rw[wi.jT,decide_eq_true k5,decide_eq_true k6];rfl)
   clear k5 k6
   go_enter Tryz.func135,Tryz.ntmps135
   go_wp2_with fail
   go_ret
   exact⟨qA HR.out.symm,hB.out⟩
  ·have d6:(x.cls == 254)=false:=by rw[beq_eq_false_iff_ne];exact k6
   by_cases k7:x.cls=255
   ·have d7:(x.cls == 255)=true:=by rw[beq_iff_eq];exact k7
    have HR:=Lib.hid (show wi.jT x=true by rw[wi.jT,decide_eq_true k5,decide_eq_true k7];simp)
    clear k5 k6 k7
    go_enter Tryz.func135,Tryz.ntmps135
    go_wp2_with fail
    go_ret
    exact⟨qA HR.out.symm,hB.out⟩
   ·have d7:(x.cls == 255)=false:=by rw[beq_eq_false_iff_ne];exact k7
    have HR:=Lib.hid (show wi.jT x=false by rw[wi.jT,decide_eq_false k6,decide_eq_false k7];simp)
    clear k5 k6 k7
    go_enter Tryz.func135,Tryz.ntmps135
    go_wp2_with fail
    go_ret
    exact⟨qA HR.out.symm,hB.out⟩
 ·have d5:=yF k5
  have HR:=Lib.hid (show wi.jT x=false by rw[wi.jT,decide_eq_false k5];rfl)
  clear k5
  go_enter Tryz.func135,Tryz.ntmps135
  go_wp2_with fail
  go_ret
  exact⟨qA HR.out.symm,hB.out⟩
theorem YQ (x:Rec)(hn:x.owner.size≤1099511627776)(w:World):Calls Tryz.prog 75 #[zB x] w fun e w'=>e= .returned (.bool (wi.qR x))∧Below w.heap.size w w':=by
 obtain⟨w1,hw1⟩:∃X,X=w.alloc (.cells (recC x).toArray 51):=⟨_,rfl⟩
 obtain⟨hB1,hs1,hx1⟩:=qM w w1 x hw1
 have hlt1:w.heap.size<w1.heap.size:=by omega
 have HS1:=Lib.hid hs1
 clear hs1
 obtain⟨p0,p1,p2,p3,p4⟩:=id hx1
 have HW1:=Lib.hid hw1;have HB1:=Lib.hid hB1;have HX1:=Lib.hid hx1
 clear hw1 hB1 hx1
 go_enter Tryz.func75,Tryz.ntmps75
 go_upto_region 1 with fail
 rw[← HW1.out]
 go_wp2_with fail
 refine(zH _ hn _).mono ?_
 rintro e w2 ⟨rfl,hB2⟩
 have HX2:=Lib.hid (HX1.out.keep (hB2.block w.heap.size hlt1))
 have HB2:=Lib.hid (HB1.out.trans (hB2.mono HB1.out.size))
 have hlt2:w.heap.size<w2.heap.size:=Nat.lt_of_lt_of_le hlt1 hB2.size
 clear hB2 p0 p1 p2 p3 p4
 obtain⟨p0,p1,p2,p3,p4⟩:=id HX2.out
 cases hc:ql x.owner
 ·have hr:=wi.bad_name hc
  clear hc
  have HR:=Lib.hid hr
  clear hr
  go_wp2_with fail
  go_ret
  exact⟨qA HR.out.symm,HB2.out⟩
 have HC:=Lib.hid hc
 clear hc
 by_cases l1:x.typ<0
 ·have d1:decide (x.typ<0)=true:=decide_eq_true l1
  have hr:=wi.bad_typ (x:=x) (decide_eq_false fun h=>by omega)
  clear l1
  have HR:=Lib.hid hr
  clear hr
  go_wp2_with fail
  go_ret
  exact⟨qA HR.out.symm,HB2.out⟩
 have d1:decide (x.typ<0)=false:=decide_eq_false l1
 by_cases m1:65535<x.typ
 ·have f1:decide (65535<x.typ)=true:=decide_eq_true m1
  have hr:=wi.bad_typ (x:=x) (decide_eq_false fun h=>by omega)
  clear l1 m1
  have HR:=Lib.hid hr
  clear hr
  go_wp2_with fail
  go_ret
  exact⟨qA HR.out.symm,HB2.out⟩
 have f1:decide (65535<x.typ)=false:=decide_eq_false m1
 have HI1:=Lib.hid (show wi.inB x.typ 65535=true from decide_eq_true ⟨by omega,by omega⟩)
 clear l1 m1
 by_cases l2:x.cls<0
 ·have d2:decide (x.cls<0)=true:=decide_eq_true l2
  have hr:=wi.bad_cls (x:=x) (decide_eq_false fun h=>by omega)
  clear l2
  have HR:=Lib.hid hr
  clear hr
  go_wp2_with fail
  go_ret
  exact⟨qA HR.out.symm,HB2.out⟩
 have d2:decide (x.cls<0)=false:=decide_eq_false l2
 by_cases m2:65535<x.cls
 ·have f2:decide (65535<x.cls)=true:=decide_eq_true m2
  have hr:=wi.bad_cls (x:=x) (decide_eq_false fun h=>by omega)
  clear l2 m2
  have HR:=Lib.hid hr
  clear hr
  go_wp2_with fail
  go_ret
  exact⟨qA HR.out.symm,HB2.out⟩
 have f2:decide (65535<x.cls)=false:=decide_eq_false m2
 have HI2:=Lib.hid (show wi.inB x.cls 65535=true from decide_eq_true ⟨by omega,by omega⟩)
 clear l2 m2
 by_cases l3:x.ttl<0
 ·have d3:decide (x.ttl<0)=true:=decide_eq_true l3
  have hr:=wi.bad_ttl (x:=x) (decide_eq_false fun h=>by omega)
  clear l3
  have HR:=Lib.hid hr
  clear hr
  go_wp2_with fail
  go_ret
  exact⟨qA HR.out.symm,HB2.out⟩
 have d3:decide (x.ttl<0)=false:=decide_eq_false l3
 by_cases m3:4294967295<x.ttl
 ·have f3:decide (4294967295<x.ttl)=true:=decide_eq_true m3
  have hr:=wi.bad_ttl (x:=x) (decide_eq_false fun h=>by omega)
  clear l3 m3
  have HR:=Lib.hid hr
  clear hr
  go_wp2_with fail
  go_ret
  exact⟨qA HR.out.symm,HB2.out⟩
 have f3:decide (4294967295<x.ttl)=false:=decide_eq_false m3
 have HI3:=Lib.hid (show wi.inB x.ttl 4294967295=true from decide_eq_true ⟨by omega,by omega⟩)
 clear l3 m3
 by_cases k4:x.typ=41
 ·have d4:(x.typ == 41)=true:=by rw[beq_iff_eq];exact k4
  have hr:=wi.opt HC.out HI1.out HI2.out HI3.out k4
  clear k4
  by_cases k5:x.data.size≤65535
  ·have d5:decide ((x.data.size:Int)≤65535)=true:=decide_eq_true (by omega)
   rw[decide_eq_true k5]at hr
   clear k5
   have HR:=Lib.hid hr
   clear hr
   go_wp2_with fail
   go_ret
   exact⟨qA HR.out.symm,HB2.out⟩
  ·have d5:decide ((x.data.size:Int)≤65535)=false:=decide_eq_false (by omega)
   rw[decide_eq_false k5]at hr
   clear k5
   have HR:=Lib.hid hr
   clear hr
   go_wp2_with fail
   go_ret
   exact⟨qA HR.out.symm,HB2.out⟩
 ·have d4:(x.typ == 41)=false:=by rw[beq_eq_false_iff_ne];exact k4
  have hr0:=wi.rest HC.out HI1.out HI2.out HI3.out k4
  have HR0:=Lib.hid hr0
  clear k4 hr0
  go_wp2_with fail
  refine(rempty_any _ _).mono ?_
  rintro e w4 ⟨rfl,hB4⟩
  have HX4:=Lib.hid (HX2.out.keep (hB4.block w.heap.size hlt2))
  have HB2:=Lib.hid (HB2.out.trans (hB4.mono HB2.out.size))
  clear hB4 p0 p1 p2 p3 p4
  obtain⟨p0,p1,p2,p3,p4⟩:=id HX4.out
  obtain⟨eb,heb⟩:∃eb,eb=wi.jT x:=⟨_,rfl⟩
  rw[← heb]
  cases eb
  ·have HEB:=Lib.hid heb.symm
   clear heb
   go_wp2_with fail
   refine(jS _ _ _).mono ?_
   rintro e w3 ⟨rfl,hB3⟩
   have HB3:=Lib.hid (HB2.out.trans (hB3.mono HB2.out.size))
   clear hB3 p0 p1 p2 p3 p4
   by_cases t0:dt.yo x.typ x.data=0
   ·have e0:(dt.yo x.typ x.data == 0)=true:=by rw[beq_iff_eq];exact t0
    have hr:wi.qR x=true:=by rw[HR0.out,decide_eq_true t0];simp
    have T0:=Lib.hid t0
    clear t0
    have HR:=Lib.hid hr
    clear hr
    go_wp2_with fail
    go_ret
    exact⟨qA HR.out.symm,HB3.out⟩
   ·have e0:(dt.yo x.typ x.data == 0)=false:=by rw[beq_eq_false_iff_ne];exact t0
    have hr:wi.qR x=false:=by rw[HR0.out,decide_eq_false t0,HEB.out];rfl
    have T0:=Lib.hid t0
    clear t0
    have HR:=Lib.hid hr
    clear hr
    go_wp2_with fail
    go_ret
    exact⟨qA HR.out.symm,HB3.out⟩
  ·have hr:wi.qR x=true:=by rw[HR0.out,← heb];rfl
   clear heb
   have HR:=Lib.hid hr
   clear hr
   go_wp2_with fail
   go_ret
   exact⟨qA HR.out.symm,HB2.out⟩
end Go.Proofs.YtdjjemajfphjaaaGreat
namespace Go.Proofs.YtdjjemajfphjaaaGreat
open Go.RowKit Go.Shelf nm od
namespace up
open zn (qD zh zf qW yX)
def zP (qf:ByteArray)(L:List Rec)(x:Rec):Int:=
 if x.ttl≠0 then 1
 else if qU x.owner qf=false then 10
 else if x.cls=1 then 0
 else if x.cls≠255∧x.cls≠254 then 1
 else if x.data.size≠0 then 1
 else if x.typ=255 then(if yX L x.owner=decide (x.cls=255) then 0 else if x.cls=255 then 3 else 6)
 else(if decide (qD L (zh x)≠[])=decide (x.cls=255) then 0 else if x.cls=255 then 8 else 7)
def jl (f:Rec→Int):List Rec→Int
 | []=>0
 | x :: l=>if f x≠0 then f x else jl f l
def Xj (L l:List Rec):Bool:=
 l.all fun x=>decide (x.cls≠1) || ((qD L (zh x)).any (fun y=>qW y x) && (qD L (zh x)).all fun y=>l.any fun v=>decide (v.cls=1) && qW v y)
def yc (qf:ByteArray)(x:Rec):Int:=
 if qU x.owner qf=false then 10
 else if x.cls=1 then(if x.ttl≤2147483647 then 0 else 1)
 else if x.cls=255 then(if x.ttl=0∧x.data.size=0∧(dt.yo x.typ ⟨#[]⟩≠6∨x.typ=255) then 0 else 1)
 else if x.cls=254 then(if x.ttl=0∧dt.yo x.typ x.data=0 then 0 else 1)
 else 1
theorem uY {f:Rec→Int}{l:List Rec}{k:Nat}(hk:k<l.length)(h:∀j (hj:j<l.length),j<k→f l[j]=0)(hf:f l[k]≠0):jl f l=f l[k]:=by
 induction l generalizing k with
 | nil=>cases hk
 | cons x t ih=>
   unfold jl
   cases k with
   | zero=>
     simp only[List.getElem_cons_zero]at hf ⊢
     rw[if_pos hf]
   | succ k=>
     have h0:=h 0 (by simp) (by omega)
     simp only[List.getElem_cons_zero]at h0
     rw[if_neg (by rw[h0];simp)]
     simp only[List.getElem_cons_succ]at hf ⊢
     exact ih (by simpa using hk) (fun j hj hjk=>by have:=h (j+1) (by simpa using hj) (by omega);simpa using this) hf
theorem Yo {f:Rec→Int}{l:List Rec}(h:∀j (hj:j<l.length),f l[j]=0):jl f l=0:=by
 induction l with
 | nil=>rfl
 | cons x t ih=>
   unfold jl
   have h0:=h 0 (by simp)
   simp only[List.getElem_cons_zero]at h0
   rw[if_neg (by rw[h0];simp)]
   exact ih fun j hj=>by have:=h (j+1) (by simpa using hj);simpa using this
def yl (t:Int):Bool:=decide (t=46) || decide (t=47)
def Qg (d:ByteArray):Int:=(dt.jP (d.extract (d.size-20) (d.size-16)) (d.extract (d.size-20) (d.size-16)).size:Nat)
def Qh (a b:Int):Bool:=decide (1≤(a-b) % 4294967296∧(a-b) % 4294967296≤2147483647)
def Z4 (qf:ByteArray)(l:List Rec)(x:Rec):List Rec:=
 if x.typ=6 then l.map fun y=>if y.typ=6∧qz x.owner qf=true∧Qh (Qg x.data) (Qg y.data)=true then x else y
 else if l.any (fun y=>qz y.owner x.owner && ((decide (x.typ=5) && decide (y.typ≠5) && !yl y.typ) || (decide (x.typ≠5) && decide (y.typ=5) && !yl x.typ))) then l
 else((l.filter fun y=>!(qW x y || (decide (x.typ=5) && decide (y.typ=5) && qz x.owner y.owner))).map fun y=>if y.typ=x.typ∧x.typ≠46∧qz x.owner y.owner=true then { y with ttl:=x.ttl} else y) ++ [x]
def Kj (qf:ByteArray)(l:List Rec)(x:Rec):List Rec:=
 l.filter fun y=>!(qz x.owner y.owner && (decide (x.typ=255) || decide (x.typ=y.typ)) && !(qz x.owner qf && (decide (y.typ=6) || decide (y.typ=2))))
def Zz (qf:ByteArray)(l:List Rec)(x:Rec):List Rec:=
 if x.typ=6∨(x.typ=2∧qz x.owner qf=true∧(l.filter fun y=>decide (y.typ=2) && qz y.owner qf).length=1) then l else l.filter fun y=>!qW x y
def zO (qf:ByteArray)(l:List Rec)(x:Rec):List Rec:=
 if x.cls=1 then Z4 qf l x else if x.cls=255 then Kj qf l x else Zz qf l x
def zK (qf:ByteArray)(l c:List Rec):List Rec:=c.foldl (zO qf) l
def Q0 (d:ByteArray)(v:Nat):ByteArray:=d.extract 0 (d.size-20) ++ ⟨#[UInt8.ofNat (v / 16777216),UInt8.ofNat (v / 65536),UInt8.ofNat (v / 256),UInt8.ofNat v]⟩ ++ d.extract (d.size-16) d.size
def XH (v:Int):Int:=if v+1 > 4294967295 then 1 else v+1
def bumpL (L l:List Rec)(ser:Int):List Rec:=
 if l.Perm L then l else l.map fun x=>if x.typ=6∧Qg x.data=ser then { x with data:=Q0 x.data (XH (Qg x.data)).toNat} else x
end up
end Go.Proofs.YtdjjemajfphjaaaGreat
namespace Go.Proofs.YtdjjemajfphjaaaGreat
open Go.RowKit Go.Shelf nm od
namespace up
open zn (qD zh zf qW yX zJ kS)
theorem Ke {a b:ByteArray}(ha:ql a=true)(hb:ql b=true):qz a b=qz b a:=by
 rw[Bool.eq_iff_iff,zJ ha hb,zJ hb ha]
 exact eq_comm
theorem QL {x y:Rec}(hx:ql x.owner=true)(hy:ql y.owner=true):yf (qm x.owner) y=qz y.owner x.owner:=by
 unfold yf
 rw[Bool.eq_iff_iff,decide_eq_true_eq,zJ hy hx]
theorem QI {x y:Rec}(hx:ql x.owner=true)(hy:ql y.owner=true):uP (zf x) y=qW x y:=by
 unfold uP
 rw[Bool.eq_iff_iff,decide_eq_true_eq,kS hx hy]
 exact eq_comm
theorem ttl_self (x:Rec):kU (qm x.owner) x x=x:=by
 unfold kU
 split <;> rfl
theorem any_congr {α:Type}{l:List α}{f g:α→Bool}(h:∀y∈l,f y=g y):l.any f=l.any g:=by
 induction l with
 | nil=>rfl
 | cons a t ih=>rw[List.any_cons,List.any_cons,h a (List.mem_cons_self ..),ih fun y hy=>h y (List.mem_cons_of_mem _ hy)]
theorem add_law {qf:ByteArray}{l:List Rec}{x:Rec}(hx:ql x.owner=true)(hl:∀y∈l,ql y.owner=true)(h5:x.typ≠5)(h6:x.typ≠6):addP l x=Z4 qf l x:=by
 unfold addP Z4
 rw[if_neg h6]
 have hany:(!ja x.typ && l.any fun y=>yf (qm x.owner) y && decide (y.typ=5))=l.any (fun y=>qz y.owner x.owner && ((decide (x.typ=5) && decide (y.typ≠5) && !yl y.typ) || (decide (x.typ≠5) && decide (y.typ=5) && !yl x.typ))):=by
  have hb:ja x.typ=yl x.typ:=rfl
  rw[hb]
  have hr:l.any (fun y=>qz y.owner x.owner && ((decide (x.typ=5) && decide (y.typ≠5) && !yl y.typ) || (decide (x.typ≠5) && decide (y.typ=5) && !yl x.typ)))=l.any fun y=>!yl x.typ && (yf (qm x.owner) y && decide (y.typ=5)):=by
   refine any_congr fun y hy=>?_
   rw[QL hx (hl y hy)]
   simp only[h5,decide_false,Bool.false_and,Bool.false_or,ne_eq,not_false_eq_true,decide_true,Bool.true_and]
   cases qz y.owner x.owner <;> cases yl x.typ <;> simp
  rw[hr]
  cases yl x.typ <;> simp
 rw[hany]
 split
 ·rfl
 ·rw[List.map_append,List.map_cons,List.map_nil,ttl_self]
  congr 1
  have hf:(l.filter fun y=>!uP (zf x) y)=l.filter fun y=>!(qW x y || (decide (x.typ=5) && decide (y.typ=5) && qz x.owner y.owner)):=by
   refine List.filter_congr fun y hy=>?_
   rw[QI hx (hl y hy)]
   simp[h5]
  rw[hf]
  refine List.map_congr_left fun y hy=>?_
  have hy2:=hl y (List.mem_filter.1 hy).1
  unfold kU
  rw[QL hx hy2,Ke hy2 hx]
  by_cases he:qz x.owner y.owner=true
  ·by_cases ht:y.typ=x.typ <;> by_cases h4:x.typ=46 <;> simp[he,ht,h4]
  ·simp[he]
theorem add_len (qf:ByteArray)(l:List Rec)(x:Rec):(Z4 qf l x).length≤l.length+1:=by
 unfold Z4
 split
 ·simp
 ·split
  ·omega
  ·simp only[List.length_append,List.length_map,List.length_singleton]
   have:=List.length_filter_le (fun y=>!(qW x y || (decide (x.typ=5) && decide (y.typ=5) && qz x.owner y.owner))) l
   omega
theorem change_len (qf:ByteArray)(l:List Rec)(x:Rec):(zO qf l x).length≤l.length+1:=by
 unfold zO
 split
 ·exact add_len qf l x
 ·split
  ·exact Nat.le_succ_of_le (List.length_filter_le _ _)
  ·unfold Zz
   split
   ·omega
   ·exact Nat.le_succ_of_le (List.length_filter_le _ _)
theorem Qt (qf:ByteArray)(l c:List Rec)(x:Rec):zK qf l (c ++ [x])=zO qf (zK qf l c) x:=by unfold zK;rw[List.foldl_append];rfl
theorem vK (qf:ByteArray):∀(c l:List Rec),(zK qf l c).length≤l.length+c.length:=by
 intro c
 induction c with
 | nil=>intro l;exact Nat.le_refl _
 | cons x t ih=>
   intro l
   have h1:=ih (zO qf l x)
   have h2:=change_len qf l x
   rw[List.length_cons]
   show(zK qf (zO qf l x) t).length≤_
   omega
end up
end Go.Proofs.YtdjjemajfphjaaaGreat
namespace Go.Proofs.YtdjjemajfphjaaaGreat
open Go.RowKit Go.Shelf nm od
namespace up
open zn (qD zh zf qW yX)
def Kh {α β:Type} [DecidableEq β] (p:α→Bool)(g:α→β)(l:List α):List β:=l.foldl (fun d x=>if p x=true then jA d (g x) else d) []
section
variable {α β:Type} [DecidableEq β] (p:α→Bool)(g:α→β)
theorem QB (l:List α)(x:α):Kh p g (l ++ [x])=if p x=true then jA (Kh p g l) (g x) else Kh p g l:=by unfold Kh;rw[List.foldl_append];rfl
theorem jC {d:List β}{a b:β}:b∈jA d a↔b∈d∨b=a:=by
 unfold jA
 split
 ·exact⟨.inl,fun h=>h.elim id (fun e=>by rw[e];assumption)⟩
 ·rw[List.mem_append,List.mem_singleton]
theorem nodup_insK {d:List β}{a:β}(h:d.Nodup):(jA d a).Nodup:=by
 unfold jA
 split
 ·exact h
 ·exact Jv h (by assumption)
theorem coll_all (l:List α):(Kh p g l).Nodup∧∀b,b∈Kh p g l↔∃x∈l,p x=true∧g x=b:=by
 have h:∀(l:List α) (d:List β),d.Nodup→(l.foldl (fun d x=>if p x=true then jA d (g x) else d) d).Nodup∧∀b,b∈l.foldl (fun d x=>if p x=true then jA d (g x) else d) d↔b∈d∨∃x∈l,p x=true∧g x=b:=by
  intro l
  induction l with
  | nil=>intro d hd;exact⟨hd,fun b=>by simp⟩
  | cons x t ih=>
    intro d hd
    rw[List.foldl_cons]
    by_cases hp:p x=true
    ·rw[if_pos hp]
     obtain⟨h1,h2⟩:=ih (jA d (g x)) (nodup_insK hd)
     refine⟨h1,fun b=>?_⟩
     rw[h2,jC]
     constructor
     ·rintro((h | rfl) | ⟨y,hy,h3⟩)
      ·exact .inl h
      ·exact .inr ⟨x,List.mem_cons_self ..,hp,rfl⟩
      ·exact .inr ⟨y,List.mem_cons_of_mem _ hy,h3⟩
     ·rintro(h | ⟨y,hy,h3,h4⟩)
      ·exact .inl (.inl h)
      ·rcases List.mem_cons.1 hy with rfl | hy
       ·exact .inl (.inr h4.symm)
       ·exact .inr ⟨y,hy,h3,h4⟩
    ·rw[if_neg hp]
     obtain⟨h1,h2⟩:=ih d hd
     refine⟨h1,fun b=>?_⟩
     rw[h2]
     constructor
     ·rintro(h | ⟨y,hy,h3⟩)
      ·exact .inl h
      ·exact .inr ⟨y,List.mem_cons_of_mem _ hy,h3⟩
     ·rintro(h | ⟨y,hy,h3,h4⟩)
      ·exact .inl h
      ·rcases List.mem_cons.1 hy with rfl | hy
       ·exact absurd h3 hp
       ·exact .inr ⟨y,hy,h3,h4⟩
 obtain⟨h1,h2⟩:=h l [] List.nodup_nil
 exact⟨h1,fun b=>by unfold Kh;rw[h2];simp⟩
theorem uC (l:List α):(Kh p g l).Nodup:=(coll_all p g l).1
theorem kW {l:List α}{b:β}:b∈Kh p g l↔∃x∈l,p x=true∧g x=b:=(coll_all p g l).2 b
end
theorem Jq {β:Type} [DecidableEq β] {x y:List β}(hx:x.Nodup)(hy:y.Nodup):(x.length=y.length∧∀a∈x,a∈y)↔∀a,a∈x↔a∈y:=by
 constructor
 ·rintro⟨hl,hs⟩ a
  refine⟨hs a,fun ha=>?_⟩
  apply Classical.byContradiction
  intro hn
  have h1:=kN (a :: x) y (List.nodup_cons.2 ⟨hn,hx⟩) (fun b hb=>by
   rcases List.mem_cons.1 hb with rfl | hb
   ·exact ha
   ·exact hs b hb)
  rw[List.length_cons]at h1
  omega
 ·intro h
  have h1:=kN x y hx (fun a ha=>(h a).1 ha)
  have h2:=kN y x hy (fun a ha=>(h a).2 ha)
  exact⟨by omega,fun a ha=>(h a).1 ha⟩
def XY (x:Rec):Bool:=decide (x.cls=1)
def JH (l:List Rec):List Key:=Kh XY zh l
def JU (l:List Rec)(κ:Key):List (ByteArray×Int×ByteArray):=Kh (fun x=>XY x && decide (zh x=κ)) zf l
def hset (L:List Rec)(κ:Key):List (ByteArray×Int×ByteArray):=Kh (fun _=>true) zf (qD L κ)
def pairB (L l:List Rec)(κ:Key):Bool:=decide ((JU l κ).length=(hset L κ).length∧∀f∈JU l κ,f∈hset L κ)
theorem full_key {x y:Rec}(h:zf x=zf y):zh x=zh y:=by
 unfold zf at h
 unfold zh
 simp only[Prod.mk.injEq]at h ⊢
 exact⟨h.1,h.2.1⟩
theorem want_iff {L l:List Rec}(hl:∀x∈l,ql x.owner=true)(hL:∀y∈L,ql y.owner=true):Xj L l=true↔∀κ∈JH l,pairB L l κ=true:=by
 have hm:∀{κ:Key} {y:Rec},y∈qD L κ↔y∈L∧zh y=κ:=fun {κ y}=>by unfold zn.qD;rw[List.mem_filter,decide_eq_true_eq]
 unfold Xj
 rw[List.all_eq_true]
 constructor
 ·intro h κ hκ
  obtain⟨x0,hx0,hc0,rfl⟩:=(kW XY zh).1 hκ
  refine decide_eq_true ((Jq (uC _ _ _) (uC _ _ _)).2 fun f=>?_)
  rw[kW,kW]
  constructor
  ·rintro⟨x,hx,h1,rfl⟩
   simp only[Bool.and_eq_true,decide_eq_true_eq]at h1
   have h2:=h x hx
   have h3:x.cls=1:=of_decide_eq_true h1.1
   simp only[h3,ne_eq,not_true_eq_false,decide_false,Bool.false_or,Bool.and_eq_true,List.any_eq_true]at h2
   obtain⟨⟨y,hy,ha⟩,-⟩:=h2
   rw[h1.2]at hy
   exact⟨y,hy,rfl,(zn.kS (hL y (hm.1 hy).1) (hl x hx)).1 ha⟩
  ·rintro⟨y,hy,-,rfl⟩
   have h2:=h x0 hx0
   have h3:x0.cls=1:=of_decide_eq_true hc0
   simp only[h3,ne_eq,not_true_eq_false,decide_false,Bool.false_or,Bool.and_eq_true,List.all_eq_true,List.any_eq_true,decide_eq_true_eq]at h2
   obtain⟨v,hv,hv1,ha⟩:=h2.2 y hy
   have hf:=(zn.kS (hl v hv) (hL y (hm.1 hy).1)).1 ha
   refine⟨v,hv,?_,hf⟩
   simp only[Bool.and_eq_true,decide_eq_true_eq]
   exact⟨decide_eq_true hv1,(full_key hf).trans (hm.1 hy).2⟩
 ·intro h x hx
  by_cases hc:x.cls=1
  ·have hκ:zh x∈JH l:=(kW XY zh).2 ⟨x,hx,decide_eq_true hc,rfl⟩
   have h2:=(Jq (uC _ _ _) (uC _ _ _)).1 (of_decide_eq_true (h _ hκ))
   simp only[hc,ne_eq,not_true_eq_false,decide_false,Bool.false_or,Bool.and_eq_true,List.any_eq_true,List.all_eq_true,decide_eq_true_eq]
   constructor
   ·obtain⟨y,hy,-,hf⟩:=(kW _ _).1 ((h2 (zf x)).1 ((kW _ _).2 ⟨x,hx,by simp[XY,hc],rfl⟩))
    exact⟨y,hy,(zn.kS (hL y (hm.1 hy).1) (hl x hx)).2 hf⟩
   ·intro y hy
    obtain⟨v,hv,hv1,hf⟩:=(kW _ _).1 ((h2 (zf y)).2 ((kW _ _).2 ⟨y,hy,rfl,rfl⟩))
    simp only[Bool.and_eq_true,decide_eq_true_eq]at hv1
    exact⟨v,hv,of_decide_eq_true hv1.1,(zn.kS (hl v hv) (hL y (hm.1 hy).1)).2 hf⟩
  ·simp[hc]
end up
end Go.Proofs.YtdjjemajfphjaaaGreat
namespace Go.Proofs.YtdjjemajfphjaaaGreat
open Go.RowKit Go.Shelf Go.WideMaps Go.WideElems nm od
namespace up
def Vh (l:List Rec):List Rec:=Kh (fun _=>true) id l
theorem bagD_snoc (l:List Rec)(x:Rec):Vh (l ++ [x])=jA (Vh l) x:=by unfold Vh;rw[QB,if_pos rfl];rfl
theorem Y0 {l:List Rec}{x:Rec}:x∈Vh l↔x∈l:=by
 unfold Vh
 rw[kW]
 constructor
 ·rintro⟨y,hy,-,rfl⟩;exact hy
 ·intro h;exact⟨x,h,rfl,rfl⟩
end up
def vk (w:World)(b:Nat)(l:List Rec):Prop:=yT zB vN w b (up.Vh l) (fun a=>.int .i64 ((l.count a:Nat):Int))
theorem vk.below {B:Nat}{w w':World}{b:Nat}{l:List Rec}(h:vk w b l)(hb:Below B w w')(hB:b<B):vk w' b l:=yT.below h hb hB
theorem vk.drew {w:World}{b:Nat}{l:List Rec}(h:vk w b l):vk w.drew b l:=yT.keep h fun _ ho=>ho
theorem vk.lt {w:World}{b:Nat}{l:List Rec}(h:vk w b l):b<w.heap.size:=yT.lt h
theorem bag_entry {w:World}{b:Nat}{l:List Rec}(h:vk w b l){x:Rec}(hx:vN x):
 (Instr.lookup 83 (.map (some b)) (zB x) false).run Tryz.prog w= .ok (.int .i64 ((l.count x:Nat):Int)) w∧
 ∃(st:Nat) (w1:World),(Instr.mapEntry 83 (.map (some b)) (zB x)).run Tryz.prog w= .ok (.tuple #[.int .i64 ((l.count x:Nat):Int),.int .i64 (st:Int)]) w1∧w.grownBy w1 (some b)∧
  (Instr.lookup 83 (.map (some b)) (zB x) false).run Tryz.prog w1= .ok (.int .i64 ((l.count x:Nat):Int)) w1∧
  ∃w3,(Instr.entryStore 83 (.map (some b)) (.int .i64 (st:Int)) (.int .i64 (((l.count x:Nat):Int)+1))).run Tryz.prog w1= .ok () w3∧w1.grownBy w3 (some b)∧vk w3 b (l ++ [x]):=by
 have hv:(if x∈up.Vh l then(.int .i64 ((l.count x:Nat):Int):Value) else .int .i64 0)= .int .i64 ((l.count x:Nat):Int):=by
  by_cases hm:x∈up.Vh l
  ·rw[if_pos hm]
  ·rw[if_neg hm,List.count_eq_zero_of_not_mem (fun h=>hm (up.Y0.2 h))];rfl
 have Yz:=uK recE Tryz.underlying83 xQ h hx
 rw[hv]at Yz
 obtain⟨st,w1,h1,h2,_,h4,h5⟩:=J5 recE Tryz.underlying83 xQ h hx
 rw[hv]at h1 h4
 have hlook1:=uK recE Tryz.underlying83 xQ h4 hx
 rw[if_pos (up.jC.2 (.inr rfl))]at hlook1
 have hu:QD (fun a=>(.int .i64 ((l.count a:Nat):Int):Value)) x (.int .i64 ((l.count x:Nat):Int)) x= .int .i64 ((l.count x:Nat):Int):=by simp[QD]
 rw[hu]at hlook1
 obtain⟨w3,g1,g2,_,g3⟩:=h5 w1 (.int .i64 (((l.count x:Nat):Int)+1)) rfl
 refine⟨Yz,st,w1,h1,h2,hlook1,w3,g1,g2,?_⟩
 unfold vk
 rw[up.bagD_snoc]
 refine g3.congr fun a _=>?_
 unfold QD
 by_cases e:a=x
 ·subst e
  rw[if_pos rfl,List.count_append,List.count_singleton_self]
  rfl
 ·rw[if_neg e,List.count_append]
  have:List.count a [x]=0:=List.count_eq_zero_of_not_mem (by simpa using e)
  rw[this,Nat.add_zero]
theorem bag_any (l:List Rec)(hl:l.length≤1000000000)(hok:∀r∈l,vN r)(v:Value)(w:World)(hrv:qy w v l):
 Calls Tryz.prog 45 #[v] w fun e w'=>e= .returned (.map (some w.heap.size))∧Below w.heap.size w w'∧vk w' w.heap.size l:=by
 have hmm:=@run_makeMap Tryz.prog
 obtain⟨b,hb⟩:∃b,b=w.heap.size:=⟨_,rfl⟩
 obtain⟨w1,hw1⟩:∃X,X=w.alloc (.map #[] 0):=⟨_,rfl⟩
 have hB1:Below w.heap.size w w1:=by rw[hw1];exact(Below.refl _ w).alloc (Nat.le_refl _) _
 have hM1:vk w1 b []:=by rw[hw1,hb];exact yT.made w zB vN _
 have HV:=Lib.hid hrv
 obtain⟨va,vc,rfl,-⟩:=id hrv
 rw[← hb]
 have HW1:=Lib.hid hw1;have HB1:=Lib.hid hB1;have HM1:=Lib.hid hM1;have HOK:=Lib.hid hok;have HBB:=Lib.hid hb
 clear hrv hw1 hB1 hM1 hok hb
 go_enter Tryz.func45,Tryz.ntmps45
 go_upto_region 2 with fail
 rw[← HW1.out,← HBB.out]
 clear hmm
 go_wp2_with fail
 go_loopw [9] (fun kv wr=>∃k:Nat,k≤l.length∧kv= .int .i64 (k:Int)∧Hid (vk wr b (l.take k)∧Below w.heap.size w wr)) (fun kv _=>l.length-(intOf kv).toNat)
 case atStart=>exact⟨0,Nat.zero_le _,rfl,Lib.hid ⟨HM1.out,HB1.out⟩⟩
 case round=>
  obtain⟨k,hk,rfl,HR⟩:=hrel
  obtain⟨w3,hw3⟩:∃X:World,X=wr:=⟨_,rfl⟩
  subst hw3
  by_cases hlt:k<l.length
  ·have hki:(k:Int)<(l.length:Int):=by omega
   obtain⟨_,_,hv,_,hr0⟩:=HV.out.below HR.out.2
   simp only[Value.slice.injEq,true_and]at hv
   obtain⟨rfl,rfl⟩:=hv
   obtain⟨bb,off,rfl,hbl,c0,c1,c2,c3,c4⟩:=hr0 k hlt
   obtain⟨x,hx⟩:∃x,x=l[k]:=⟨_,rfl⟩
   rw[← hx]at c0 c1 c2 c3 c4
   obtain⟨wa,hwa⟩:∃W,W=w3.alloc (.cells (recC x).toArray 51):=⟨_,rfl⟩
   obtain⟨hBa,hsa,hxa⟩:=qM w3 wa x hwa
   obtain⟨bx,hbx⟩:∃b,b=w3.heap.size:=⟨_,rfl⟩
   rw[← hbx]at hxa
   have zU:bx<wa.heap.size:=by omega
   obtain⟨x0,x1,x2,x3,x4⟩:=id hxa
   have HWA:=Lib.hid hwa;have HX:=Lib.hid hx;have HLT:=Lib.hid hlt;have HXA:=Lib.hid hxa;have HBX:=Lib.hid hbx;have yH:=Lib.hid zU
   have HB4:=Lib.hid (HR.out.2.trans (hBa.mono HR.out.2.size))
   clear hwa hx hBa hsa hr0 hbl hxa hbx zU
   go_upto_region 5 with fail
   rw[← HWA.out,← HBX.out]
   clear c0 c1 c2 c3 c4
   have K9:vk wa b (l.take k):=HR.out.1.below (show Below w3.heap.size w3 wa from by rw[HWA.out];exact(Below.refl _ _).alloc (Nat.le_refl _) _) HR.out.1.lt
   obtain⟨c,hc⟩:∃c,c=(l.take k).count x:=⟨_,rfl⟩
   have hcb:c≤1000000000:=by rw[hc];refine Nat.le_trans (List.count_le_length ..) ?_;rw[List.length_take];omega
   have hxok:vN x:=by rw[HX.out];exact HOK.out _ (List.getElem_mem _)
   obtain⟨hlk,st,w5,X4,hg5,hlk5,w6,X3,hg6,hBA6⟩:=bag_entry (K9.drew) hxok
   obtain⟨hlk0,-⟩:=bag_entry K9 hxok
   rw[← hc]at hlk hlk5 X4 X3 hlk0
   have hw:IntKind.i64.wrap ((c:Int)+1)=(c:Int)+1:=IntWalk.i64_in _ (by omega)
   have hbb:b<wa.heap.size:=K9.lt
   have hne:bx≠b:=by have h1:=HR.out.1.lt;have h2:=HBX.out;omega
   have Kc:∀(i:Nat) u,wa.cell? ⟨bx,i,none⟩=some u→w5.cell? ⟨bx,i,none⟩=some u:=fun i u h=>by
    rw[hg5.cell_far ⟨bx,i,none⟩ yH.out (by simpa using hne)];exact h
   have q0:=Kc _ _ x0;have q1:=Kc _ _ x1;have q2:=Kc _ _ x2;have q3:=Kc _ _ x3;have q4:=Kc _ _ x4
   have Kb:∀(i:Nat) u,w5.cell? ⟨bx,i,none⟩=some u→w6.cell? ⟨bx,i,none⟩=some u:=fun i u h=>by
    rw[hg6.cell_far ⟨bx,i,none⟩ (Nat.lt_of_lt_of_le yH.out hg5.size) (by simpa using hne)];exact h
   have r0:=Kb _ _ q0;have r1:=Kb _ _ q1;have r2:=Kb _ _ q2;have r3:=Kb _ _ q3;have r4:=Kb _ _ q4
   have HEND:=Lib.hid (show vk w6 b (l.take (k+1)) by rw[List.take_succ_eq_append_getElem HLT.out,← HX.out];exact hBA6)
   have HB6:=Lib.hid (show Below w.heap.size w w6 by
    have h1:wa.drew.grownBy w6 (some b):=hg5.trans hg6
    refine((HB4.out.trans (Below.refl _ wa).drew)).grown h1 HB4.out.size (fun j hj=>?_)
    cases hj
    exact Nat.le_of_eq HBB.out.symm)
   clear K9 hc hcb hxok hg5 hg6 hBA6 hbb hne Kc Kb
   simp only[zB]at hlk hlk0 hlk5 X4
   go_region
   all_goals
    clear hw X4 X3 hlk hlk0 hlk5 x0 x1 x2 x3 x4 q0 q1 q2 q3 q4 r0 r1 r2 r3 r4
    go_wp2_with fail
    go_roundw
    case rel=>exact⟨k+1,by omega,by go_num,Lib.hid ⟨HEND.out,HB6.out⟩⟩
    case measure=>simp[intOf];omega
  ·obtain rfl:k=l.length:=by omega
   have HE:=Lib.hid (show vk w3 b l by have:=HR.out.1;rwa [List.take_length]at this)
   clear hlt
   go_wp2_with fail
   go_ret
   exact⟨rfl,by rw[HBB.out];exact HR.out.2,HE.out⟩
end Go.Proofs.YtdjjemajfphjaaaGreat
