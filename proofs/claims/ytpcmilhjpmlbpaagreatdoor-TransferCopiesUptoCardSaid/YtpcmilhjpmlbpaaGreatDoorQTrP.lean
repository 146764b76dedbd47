import Derived.Test.YtpcmilhjpmlbpaaGreatDoorQRefV
import Derived.Test.YtpcmilhjpmlbpaaGreatDoorQDataS
import Derived.Test.YtpcmilhjpmlbpaaGreatDoorQRefP
import Derived.Test.YtpcmilhjpmlbpaaGreatDoorQRzF
set_option maxRecDepth 100000
set_option maxHeartbeats 4000000
namespace Go.Proofs.YtpcmilhjpmlbpaaGreatDoor
open Go.RowKit Go.Shelf nm od
namespace wi
def inB (v t:Int):Bool:=decide (0≤v∧v≤t)
theorem in_t {v t:Int}(h:inB v t=true):0≤v∧v≤t:=of_decide_eq_true h
def Qw (x:Rec):Bool:=decide (x.data.size=0) && (decide (x.cls=254) || decide (x.cls=255))
def ze (x:Rec):Bool:=
 qj x.owner && inB x.typ 65535 && inB x.cls 65535 && inB x.ttl 4294967295 &&
  (if x.typ=41 then decide (x.data.size≤65535) else(Qw x || decide (dt.yT x.typ x.data=0)))
theorem bad_name {x:Rec}(h:qj x.owner=false):ze x=false:=by simp[ze,h]
theorem bad_typ {x:Rec}(h:inB x.typ 65535=false):ze x=false:=by simp[ze,h]
theorem bad_cls {x:Rec}(h:inB x.cls 65535=false):ze x=false:=by simp[ze,h]
theorem bad_ttl {x:Rec}(h:inB x.ttl 4294967295=false):ze x=false:=by simp[ze,h]
theorem opt {x:Rec}(h0:qj x.owner=true)(h1:inB x.typ 65535=true)(h2:inB x.cls 65535=true)(h3:inB x.ttl 4294967295=true)(h4:x.typ=41):ze x=decide (x.data.size≤65535):=by
 unfold ze;rw[h0,h1,h2,h3,if_pos h4];rfl
theorem rest {x:Rec}(h0:qj x.owner=true)(h1:inB x.typ 65535=true)(h2:inB x.cls 65535=true)(h3:inB x.ttl 4294967295=true)(h4:x.typ≠41):ze x=(Qw x || decide (dt.yT x.typ x.data=0)):=by
 unfold ze;rw[h0,h1,h2,h3,if_neg h4];rfl
end wi
theorem Yy (v t:Int)(w:World):Calls Tryz.prog 65 #[.int .i64 v,.int .i64 t] w fun e w'=>e= .returned (.bool (wi.inB v t))∧w=w':=by
 by_cases h0:0≤v
 ·have d0:decide (0≤v)=true:=decide_eq_true h0
  by_cases h1:v≤t
  ·have d1:decide (v≤t)=true:=decide_eq_true h1
   have HR:=Lib.hid (show wi.inB v t=true from decide_eq_true ⟨h0,h1⟩)
   go_enter Tryz.func65,Tryz.ntmps65
   go_wp2_with fail
   go_ret
   exact⟨qI HR.out.symm,rfl⟩
  ·have d1:decide (v≤t)=false:=decide_eq_false h1
   have HR:=Lib.hid (show wi.inB v t=false from decide_eq_false fun h=>h1 h.2)
   go_enter Tryz.func65,Tryz.ntmps65
   go_wp2_with fail
   go_ret
   exact⟨qI HR.out.symm,rfl⟩
 ·have d0:decide (0≤v)=false:=decide_eq_false h0
  have HR:=Lib.hid (show wi.inB v t=false from decide_eq_false fun h=>h0 h.1)
  go_enter Tryz.func65,Tryz.ntmps65
  go_wp2_with fail
  go_ret
  exact⟨qI HR.out.symm,rfl⟩
theorem Jv (x:Rec)(w:World):Calls Tryz.prog 66 #[yA x] w fun e w'=>e= .returned (.bool (wi.ze x))∧Below w.heap.size w w':=by
 obtain⟨w1,hw1⟩:∃X,X=w.alloc (.cells (recC x).toArray 80):=⟨_,rfl⟩
 obtain⟨hB1,hs1,hx1⟩:=zw w w1 x hw1
 have hlt1:w.heap.size<w1.heap.size:=by omega
 have HS1:=Lib.hid hs1
 clear hs1
 obtain⟨p0,p1,p2,p3,p4⟩:=id hx1
 have HW1:=Lib.hid hw1;have HB1:=Lib.hid hB1;have HX1:=Lib.hid hx1
 clear hw1 hB1 hx1
 go_enter Tryz.func66,Tryz.ntmps66
 go_upto_region 1 with fail
 rw[← HW1.out]
 go_wp2_with fail
 refine(zk _ _).mono ?_
 rintro e w2 ⟨rfl,hB2⟩
 have HX2:=Lib.hid (HX1.out.keep (hB2.block w.heap.size hlt1))
 have HB2:=Lib.hid (HB1.out.trans (hB2.mono HB1.out.size))
 have hlt2:w.heap.size<w2.heap.size:=Nat.lt_of_lt_of_le hlt1 hB2.size
 clear hB2 p0 p1 p2 p3 p4
 obtain⟨p0,p1,p2,p3,p4⟩:=id HX2.out
 cases hc:qj x.owner
 ·have hr:=wi.bad_name hc
  rw[Zi]
  clear hc
  have HR:=Lib.hid hr
  clear hr
  go_wp2_with fail
  go_ret
  exact⟨qI HR.out.symm,HB2.out⟩
 ·rw[uh]
  have HC:=Lib.hid hc
  clear hc
  go_wp2_with fail
  refine(Yy _ _ _).mono ?_
  rintro e w3 ⟨rfl,rfl⟩
  obtain⟨b3,hb3⟩:∃b,b=wi.inB x.typ 65535:=⟨_,rfl⟩
  rw[← hb3]
  cases b3
  ·have hr:=wi.bad_typ hb3.symm
   clear hb3
   have HR:=Lib.hid hr
   clear hr
   go_wp2_with fail
   go_ret
   exact⟨qI HR.out.symm,HB2.out⟩
  have HI1:=Lib.hid hb3.symm
  clear hb3
  go_wp2_with fail
  refine(Yy _ _ _).mono ?_
  rintro e w4 ⟨rfl,rfl⟩
  obtain⟨b4,hb4⟩:∃b,b=wi.inB x.cls 65535:=⟨_,rfl⟩
  rw[← hb4]
  cases b4
  ·have hr:=wi.bad_cls hb4.symm
   clear hb4
   have HR:=Lib.hid hr
   clear hr
   go_wp2_with fail
   go_ret
   exact⟨qI HR.out.symm,HB2.out⟩
  have HI2:=Lib.hid hb4.symm
  clear hb4
  go_wp2_with fail
  refine(Yy _ _ _).mono ?_
  rintro e w5 ⟨rfl,rfl⟩
  obtain⟨b5,hb5⟩:∃b,b=wi.inB x.ttl 4294967295:=⟨_,rfl⟩
  rw[← hb5]
  cases b5
  ·have hr:=wi.bad_ttl hb5.symm
   clear hb5
   have HR:=Lib.hid hr
   clear hr
   go_wp2_with fail
   go_ret
   exact⟨qI HR.out.symm,HB2.out⟩
  have HI3:=Lib.hid hb5.symm
  clear hb5
  by_cases k4:x.typ=41
  ·have d4:(x.typ == 41)=true:=by rw[beq_iff_eq];exact k4
   have hr:=wi.opt HC.out HI1.out HI2.out HI3.out k4
   clear k4
   by_cases k5:x.data.size≤65535
   ·have d5:decide ((x.data.size:Int)≤65535)=true:=decide_eq_true (by omega)
    rw[decide_eq_true k5]at hr
    clear k5
    have HR:=Lib.hid hr
    clear hr
    go_wp2_with fail
    go_ret
    exact⟨qI HR.out.symm,HB2.out⟩
   ·have d5:decide ((x.data.size:Int)≤65535)=false:=decide_eq_false (by omega)
    rw[decide_eq_false k5]at hr
    clear k5
    have HR:=Lib.hid hr
    clear hr
    go_wp2_with fail
    go_ret
    exact⟨qI HR.out.symm,HB2.out⟩
  ·have d4:(x.typ == 41)=false:=by rw[beq_eq_false_iff_ne];exact k4
   have hr0:=wi.rest HC.out HI1.out HI2.out HI3.out k4
   clear k4
   have HR0:=Lib.hid hr0
   by_cases k5:x.data.size=0
   ·have d5:=yP k5
    by_cases k6:x.cls=254
    ·have d6:(x.cls == 254)=true:=by rw[beq_iff_eq];exact k6
     have hr:wi.ze x=true:=by rw[HR0.out,wi.Qw,decide_eq_true k5,decide_eq_true k6];rfl
     clear hr0 k5 k6
     have HR:=Lib.hid hr
     clear hr
     go_wp2_with fail
     go_ret
     exact⟨qI HR.out.symm,HB2.out⟩
    ·have d6:(x.cls == 254)=false:=by rw[beq_eq_false_iff_ne];exact k6
     by_cases k7:x.cls=255
     ·have d7:(x.cls == 255)=true:=by rw[beq_iff_eq];exact k7
      have hr:wi.ze x=true:=by rw[HR0.out,wi.Qw,decide_eq_true k5,decide_eq_true k7];simp
      clear hr0 k5 k6 k7
      have HR:=Lib.hid hr
      clear hr
      go_wp2_with fail
      go_ret
      exact⟨qI HR.out.symm,HB2.out⟩
     ·have d7:(x.cls == 255)=false:=by rw[beq_eq_false_iff_ne];exact k7
      have HEB:=Lib.hid (show wi.Qw x=false by rw[wi.Qw,decide_eq_false k6,decide_eq_false k7];simp)
      clear hr0 k5 k6 k7
      go_wp2_with fail
      refine(uC _ _ _).mono ?_
      rintro e w3 ⟨rfl,hB3⟩
      have HB3:=Lib.hid (HB2.out.trans (hB3.mono HB2.out.size))
      clear hB3 p0 p1 p2 p3 p4
      by_cases t0:dt.yT x.typ x.data=0
      ·have e0:(dt.yT x.typ x.data == 0)=true:=by rw[beq_iff_eq];exact t0
       have hr:wi.ze x=true:=by rw[HR0.out,decide_eq_true t0];simp
       have T0:=Lib.hid t0
       clear t0
       have HR:=Lib.hid hr
       clear hr
       go_wp2_with fail
       go_ret
       exact⟨qI HR.out.symm,HB3.out⟩
      ·have e0:(dt.yT x.typ x.data == 0)=false:=by rw[beq_eq_false_iff_ne];exact t0
       have hr:wi.ze x=false:=by rw[HR0.out,decide_eq_false t0,HEB.out];rfl
       have T0:=Lib.hid t0
       clear t0
       have HR:=Lib.hid hr
       clear hr
       go_wp2_with fail
       go_ret
       exact⟨qI HR.out.symm,HB3.out⟩
   ·have d5:=jh k5
    have HEB:=Lib.hid (show wi.Qw x=false by rw[wi.Qw,decide_eq_false k5];rfl)
    clear hr0 k5
    go_wp2_with fail
    refine(uC _ _ _).mono ?_
    rintro e w3 ⟨rfl,hB3⟩
    have HB3:=Lib.hid (HB2.out.trans (hB3.mono HB2.out.size))
    clear hB3 p0 p1 p2 p3 p4
    by_cases t0:dt.yT x.typ x.data=0
    ·have e0:(dt.yT x.typ x.data == 0)=true:=by rw[beq_iff_eq];exact t0
     have hr:wi.ze x=true:=by rw[HR0.out,decide_eq_true t0];simp
     have T0:=Lib.hid t0
     clear t0
     have HR:=Lib.hid hr
     clear hr
     go_wp2_with fail
     go_ret
     exact⟨qI HR.out.symm,HB3.out⟩
    ·have e0:(dt.yT x.typ x.data == 0)=false:=by rw[beq_eq_false_iff_ne];exact t0
     have hr:wi.ze x=false:=by rw[HR0.out,decide_eq_false t0,HEB.out];rfl
     have T0:=Lib.hid t0
     clear t0
     have HR:=Lib.hid hr
     clear hr
     go_wp2_with fail
     go_ret
     exact⟨qI HR.out.symm,HB3.out⟩
end Go.Proofs.YtpcmilhjpmlbpaaGreatDoor
namespace Go.Proofs.YtpcmilhjpmlbpaaGreatDoor
open Go.RowKit Go.Shelf nm od
namespace up
open zn (qE zV yu vW)
def besideB (t:Int):Bool:=decide (t=46) || decide (t=47)
def Yb (d:ByteArray):Int:=(dt.jA (d.extract (d.size-20) (d.size-16)) (d.extract (d.size-20) (d.size-16)).size:Nat)
def zy (a b:Int):Bool:=decide (1≤(a-b) % 4294967296∧(a-b) % 4294967296≤2147483647)
def addL (qf:ByteArray)(l:List Rec)(x:Rec):List Rec:=
 if x.typ=6 then l.map fun y=>if y.typ=6∧qF x.owner qf=true∧zy (Yb x.data) (Yb y.data)=true then x else y
 else if l.any (fun y=>qF y.owner x.owner && ((decide (x.typ=5) && decide (y.typ≠5) && !besideB y.typ) || (decide (x.typ≠5) && decide (y.typ=5) && !besideB x.typ))) then l
 else((l.filter fun y=>!(vW x y || (decide (x.typ=5) && decide (y.typ=5) && qF x.owner y.owner))).map fun y=>if y.typ=x.typ∧x.typ≠46∧qF x.owner y.owner=true then { y with ttl:=x.ttl} else y) ++ [x]
end up
end Go.Proofs.YtpcmilhjpmlbpaaGreatDoor
namespace Go.Proofs.YtpcmilhjpmlbpaaGreatDoor
open Go.RowKit Go.Shelf nm od
namespace tr
open zn (qE zV)
structure Zn where
 ap:ByteArray
 l:List Rec
def Xe:Rec:=⟨ByteArray.empty,0,0,0,ByteArray.empty⟩
def zy (a b:Int):Bool:=decide (0≤a∧0≤b∧a≤4294967295∧b≤4294967295) && up.zy a b
def q9 (z:Zn):Rec:=(qE z.l (qw z.ap,6)).headD Xe
def zH (z:Zn):Int:=zn.QM (q9 z).data
def q8 (l:List Rec):List Rec:=l.filter fun r=>!decide (r.typ=6)
def Qs (l m:List Rec):List Rec:=l.filter fun r=>!decide (r∈m)
def yw (z:Zn):List Rec:=q9 z :: (q8 z.l ++ [q9 z])
def qZ (H:List Zn)(i:Nat):Zn:=H.getD i ⟨ByteArray.empty,[]⟩
def qM (H:List Zn):Zn:=qZ H (H.length-1)
def ZL (a b:Zn):List Rec:=(([q9 a] ++ Qs (q8 a.l) (q8 b.l)) ++ [q9 b]) ++ Qs (q8 b.l) (q8 a.l)
def yK (H:List Zn)(k n:Nat):List Rec:=(List.range n).flatMap fun i=>ZL (qZ H (k+i)) (qZ H (k+i+1))
def yH (H:List Zn)(k:Nat):List Rec:=([q9 (qM H)] ++ yK H k (H.length-1-k)) ++ [q9 (qM H)]
theorem Yl (H:List Zn)(k n:Nat):yK H k (n+1)=yK H k n ++ ZL (qZ H (k+n)) (qZ H (k+n+1)):=by
 unfold yK
 rw[List.range_succ,List.flatMap_append,List.flatMap_singleton]
theorem ve {H:List Zn}{i:Nat}(h:i<H.length):qZ H i=H[i]:=by
 unfold qZ
 rw[List.getD_eq_getElem?_getD,List.getElem?_eq_getElem h]
 rfl
theorem getZ_drop (H:List Zn)(f i:Nat):qZ (H.drop f) i=qZ H (f+i):=by
 unfold qZ
 rw[List.getD_eq_getElem?_getD,List.getD_eq_getElem?_getD,List.getElem?_drop]
def Qz (h:List Zn)(z:Zn):Int:=if qF z.ap (qM h).ap=false then 5 else if zy (zH z) (zH (qM h))=false then 30 else 0
def addL (h:List Zn)(z:Zn):List Zn:=(h ++ [z]).drop ((h ++ [z]).length-8)
def Ok (z:Zn):Prop:=zn.Valid z.ap z.l
theorem Kw {z:Zn}(hv:Ok z){r:Rec}(hr:r∈z.l):r.typ=6↔zV r=(qw z.ap,6):=by
 constructor
 ·intro h6
  obtain⟨_,h2,_⟩:=zn.uH hv.rules
  have:=(zn.zO (hv.named r hr) hv.ap).1 ((zn.QL.1 h2).2 r hr h6)
  unfold zV
  rw[this,h6]
 ·intro h
  exact congrArg Prod.snd h
theorem pair_len {l:List Rec}(h:l.Pairwise fun a b=>¬(a.typ=6∧b.typ=6))(h6:∀r∈l,r.typ=6):l.length≤1:=by
 match l,h with
 | [],_=>simp
 | [a],_=>simp
 | a :: b :: t,h=>
   have:=(List.pairwise_cons.1 h).1 b (by simp)
   exact absurd ⟨h6 a (by simp),h6 b (by simp)⟩ this
theorem rows_six {z:Zn}(hv:Ok z):qE z.l (qw z.ap,6)=z.l.filter fun r=>decide (r.typ=6):=by
 unfold qE
 refine List.filter_congr fun r hr=>?_
 have:=Kw hv hr
 by_cases h6:r.typ=6
 ·have h2:=this.1 h6
  simp[h6,h2]
 ·have h2:¬zV r=(qw z.ap,6):=fun h=>h6 (this.2 h)
  simp[h6,h2]
theorem yz {z:Zn}(hv:Ok z):qE z.l (qw z.ap,6)= [q9 z]∧q9 z∈z.l∧(q9 z).typ=6∧dt.yT 6 (q9 z).data=0:=by
 obtain⟨_,h2,_⟩:=zn.uH hv.rules
 have hp:=(zn.QL.1 h2).1
 obtain⟨r,hr,h6,-,-⟩:=zn.soa_rec hv
 have hlen:(qE z.l (qw z.ap,6)).length≤1:=by
  rw[rows_six hv]
  exact pair_len (hp.sublist List.filter_sublist) fun r hr=>by simpa using (List.mem_filter.1 hr).2
 have hm:r∈qE z.l (qw z.ap,6):=zn.jI.2 ⟨hr,(Kw hv hr).1 h6⟩
 have he:qE z.l (qw z.ap,6)= [r]:=by
  match hh:qE z.l (qw z.ap,6),hlen,hm with
  | [a],_,hm=>rw[List.mem_singleton.1 hm]
  | a :: b :: t,hl,_=>simp at hl
 have hs:q9 z=r:=by unfold q9;rw[he];rfl
 rw[hs]
 refine⟨he,hr,h6,?_⟩
 have:=(hv.each r hr).2.1
 unfold zn.jq at this
 simp only[Bool.not_eq_false',Bool.and_eq_true,decide_eq_true_eq]at this
 rw[← h6]
 exact this.2
theorem Qj {z:Zn}(hv:Ok z):20≤(q9 z).data.size∧(q9 z).data.size≤65535:=dt.Qj (yz hv).2.2.2
theorem num_nat {d:ByteArray}(h:20≤d.size):∃n:Nat,up.Yb d=(n:Int)∧n<4294967296:=by
 refine⟨_,rfl,?_⟩
 have hs:(d.extract (d.size-20) (d.size-16)).size=4:=by rw[ByteArray.size_extract];omega
 rw[hs]
 exact Nat.lt_of_lt_of_le (dt.JZ _ 4) (by decide)
theorem num_serial {d:ByteArray}(h:20≤d.size):up.Yb d=zn.QM d:=by
 unfold up.Yb zn.QM
 have hs:(d.extract (d.size-20) (d.size-16)).size=4:=by rw[ByteArray.size_extract];omega
 rw[hs]
theorem ser_num {z:Zn}(hv:Ok z):zH z=up.Yb (q9 z).data:=(num_serial (Qj hv).1).symm
end tr
end Go.Proofs.YtpcmilhjpmlbpaaGreatDoor
