import Derived.Test.YtpcmilhjpmlbpaaGreatDoorQDataS
import Derived.Test.YtpcmilhjpmlbpaaGreatDoorQDrawn
import Derived.Test.YtpcmilhjpmlbpaaGreatDoorQNameE
import Derived.WalkLawsBesides
import Derived.Lib.Small
import Derived.Sort.Statements
set_option maxRecDepth 100000
set_option maxHeartbeats 2000000
namespace Go.Proofs.YtpcmilhjpmlbpaaGreatDoor
open Go.RowKit Go.Shelf nm
structure Rec where
 owner:ByteArray
 typ:Int
 cls:Int
 ttl:Int
 data:ByteArray
 deriving DecidableEq
@[reducible] def recC (r:Rec):List Value:=[.string r.owner,.int .i64 r.typ,.int .i64 r.cls,.int .i64 r.ttl,.string r.data]
@[reducible] def yA (r:Rec):Value:=.agg #[.string r.owner,.int .i64 r.typ,.int .i64 r.cls,.int .i64 r.ttl,.string r.data]
namespace zn
def orL:List Int→Int
 | []=>0
 | a :: l=>if a=0 then orL l else a
def zR (x y:Rec):Int:=orL [zg x.owner y.owner,Lib.compareInt x.typ y.typ,Lib.compareBytes (dt.zU x.typ x.data).data.toList (dt.zU y.typ y.data).data.toList]
end zn
theorem or_any (xs:List Int)(hx:xs.length≤1000)(g cap:Nat)(w:World)(hc:∀j (hj:j<xs.length),w.cell? ⟨g,j,none⟩=some (.int .i64 xs[j])):
 Calls Tryz.prog 127 #[.slice (some ⟨g,0,none⟩) xs.length cap] w fun e w'=>e= .returned (.int .i64 (zn.orL xs))∧w'=w:=by
 have HC:=Lib.hid hc
 clear hc
 go_enter Tryz.func127,Tryz.ntmps127
 go_wp2
 go_loop [8,5] (fun kv _=>∃k:Nat,k≤xs.length∧kv= .int .i64 k∧zn.orL xs=zn.orL (xs.drop k)) (fun kv _=>xs.length-(intOf kv).toNat)
 case atStart=>exact⟨0,Nat.zero_le _,rfl,rfl⟩
 case round=>
  obtain⟨k,hk,rfl,he⟩:=hrel
  by_cases hlt:k<xs.length
  ·have hcell:=HC.out k hlt
   rw[List.drop_eq_getElem_cons hlt,zn.orL]at he
   by_cases h0:xs[k]=0
   ·rw[if_pos h0]at he
    have b1:(xs[k] != 0)=false:=by rw[h0];rfl
    have HE:=Lib.hid he;have H0:=Lib.hid h0
    clear he h0
    go_wp2
    go_round
    case rel=>exact⟨k+1,by omega,by go_num,HE.out⟩
    case measure=>simp[intOf];omega
   ·rw[if_neg h0]at he
    have b1:(xs[k] != 0)=true:=by rw[bne_iff_ne];exact h0
    have HE:=Lib.hid he
    clear he h0
    go_wp2
    go_ret
    exact⟨qL HE.out.symm,rfl⟩
  ·have hke:k=xs.length:=by omega
   rw[hke,List.drop_length]at he
   have HE:=Lib.hid he
   clear he hke
   go_wp2
   go_ret
   exact⟨qL (by rw[HE.out];rfl),rfl⟩
theorem qW (w:World)(r:Rec)(t:TypeId)(j:Nat)(v:Value)(h:(recC r)[j]? =some v):(w.alloc (.cells (recC r).toArray t)).cell? ⟨w.heap.size,j,none⟩=some v:=by
 rw[qg (qB rfl)]
 simpa using h
theorem order_any (x y:Rec)(hx:x.owner.size≤140737488355328)(hy:y.owner.size≤140737488355328)(w:World):
 Calls Tryz.prog 80 #[yA x,yA y] w fun e w'=>e= .returned (.int .i64 (zn.zR x y))∧Below w.heap.size w w':=by
 have hB2:=Lib.hid (((Below.refl _ w).alloc (Nat.le_refl _) (.cells (recC x).toArray 80)).alloc (by simp) (.cells (recC y).toArray 80))
 have cx:=fun j v h=>qp (.cells (recC y).toArray 80) (qW w x 80 j v h)
 have cy:=fun j v h=>qW (w.alloc (.cells (recC x).toArray 80)) y 80 j v h
 simp only[World.size_alloc]at cy
 have CX:=Lib.hid cx;have CY:=Lib.hid cy
 clear cx cy
 go_enter Tryz.func80,Tryz.ntmps80
 go_wp2_with fail
 obtain⟨w2,hw2⟩:∃W,W=(w.alloc (.cells (recC x).toArray 80)).alloc (.cells (recC y).toArray 80):=⟨_,rfl⟩
 have HW:=Lib.hid hw2
 have e1:=qh (hw2 ▸ CX.out 0 _ rfl)
 have e2:=qh (hw2 ▸ CX.out 1 _ rfl)
 have e3:=qh (hw2 ▸ CX.out 4 _ rfl)
 have e4:=qh (hw2 ▸ CY.out 0 _ rfl)
 have e5:=qh (hw2 ▸ CY.out 1 _ rfl)
 have e6:=qh (hw2 ▸ CY.out 4 _ rfl)
 rw[← hw2]
 clear hw2
 refine xh (C:=fun W=>∃p,W=gw w2 p) 21 (by kernel_rfl) (by kernel_rfl) (gw_draw w2) ?_
 simp only[List.take_succ_cons,List.take_zero,List.drop_succ_cons,List.drop_zero]
 repeat (refine wpQuiet_step (fun K hK=>?_);go_simp;first | (refine hK _ ?_;clear hK K) | (apply Exists.intro;refine⟨fun _=>?_,hK _ ?_⟩;(first | (go_at_call 128;exact qU (compare_any _ _ hx hy _)) | (go_at_call 129;exact Jq (Tryz.cmp_Compare_int _ _ _)) | (go_at_call 118;exact qU (dfold_any _ _ _)) | (go_at_call 130;exact Jq (Tryz.strings_Compare _ _ _)));clear hK K))
 refine wpQuiet_nil ?_
 intro W hW
 have hBW:Below w2.heap.size w2 W:=by obtain⟨p,rfl⟩:=hW;exact qC _ _
 clear e1 e2 e3 e4 e5 e6 hW
 go_wp2_with fail
 refine(or_any [zg x.owner y.owner,Lib.compareInt x.typ y.typ,Lib.compareBytes (dt.zU x.typ x.data).data.toList (dt.zU y.typ y.data).data.toList] (by simp) W.heap.size 3 _ ?_).mono ?_
 ·intro j hj
  rw[qg (qB rfl)]
  match j,hj with
  | 0,_=>rfl
  | 1,_=>rfl
  | 2,_=>rfl
 rintro e w5 ⟨rfl,rfl⟩
 go_wp2_with fail
 go_ret
 have hB:=hB2.out
 rw[← HW.out]at hB
 have z2:=hB.size
 exact⟨rfl,(hB.trans (hBW.mono z2)).alloc (by have:=hBW.size;omega) _⟩
end Go.Proofs.YtpcmilhjpmlbpaaGreatDoor
namespace Go.Proofs.YtpcmilhjpmlbpaaGreatDoor
open Go.RowKit Go.Shelf nm
def Z9 (w:World)(b off:Nat)(r:Rec):Prop:=
 w.cell? ⟨b,off,none⟩=some (.string r.owner)∧w.cell? ⟨b,off+1,none⟩=some (.int .i64 r.typ)∧w.cell? ⟨b,off+2,none⟩=some (.int .i64 r.cls)∧
 w.cell? ⟨b,off+3,none⟩=some (.int .i64 r.ttl)∧w.cell? ⟨b,off+4,none⟩=some (.string r.data)
def qz (w:World)(v:Value)(l:List Rec):Prop:=
 ∃a cap,v= .slice a l.length cap∧l.length≤cap∧∀k (hk:k<l.length),∃b off,a=some ⟨b,off,none⟩∧b<w.heap.size∧Z9 w b (off+k*5) l[k]
theorem Z9.keep {w w':World}{b off:Nat}{r:Rec}(h:Z9 w b off r)(hk:w'.heap[b]? =w.heap[b]?):Z9 w' b off r:=by
 have e:∀i,w'.cell? ⟨b,i,none⟩=w.cell? ⟨b,i,none⟩:=fun i=>World.cell?_of_block (w:=w) (a:=⟨b,i,none⟩) hk
 exact⟨(e _).trans h.1,(e _).trans h.2.1,(e _).trans h.2.2.1,(e _).trans h.2.2.2.1,(e _).trans h.2.2.2.2⟩
theorem qz.below {w w':World}{v:Value}{l:List Rec}(h:qz w v l)(hb:Below w.heap.size w w'):qz w' v l:=by
 obtain⟨a,cap,hv,hc,hr⟩:=h
 refine⟨a,cap,hv,hc,fun k hk=>?_⟩
 obtain⟨b,off,ha,hbl,hra⟩:=hr k hk
 exact⟨b,off,ha,Nat.lt_of_lt_of_le hbl hb.size,hra.keep (hb.block b hbl)⟩
namespace zn
def xK (r:Rec):Bool:=decide (r.typ=50) || (decide (r.typ=46) && Lib.hasPrefix r.data.data.toList [0,50])
end zn
theorem signs_any (r:Rec)(w:World):Calls Tryz.prog 114 #[yA r] w fun e w'=>e= .returned (.bool (zn.xK r))∧Below w.heap.size w w':=by
 have hB:=Lib.hid ((Below.refl _ w).alloc (Nat.le_refl _) (.cells (recC r).toArray 80))
 by_cases h5:r.typ=50
 ·have b1:(r.typ == 50)=true:=by rw[beq_iff_eq];exact h5
  have hr:zn.xK r=true:=by unfold zn.xK;rw[decide_eq_true h5,Bool.true_or]
  have HR:=Lib.hid hr
  clear hr h5
  go_enter Tryz.func114,Tryz.ntmps114
  go_wp2_with fail
  go_ret
  exact⟨qI HR.out.symm,hB.out⟩
 ·have b1:(r.typ == 50)=false:=by rw[beq_eq_false_iff_ne];exact h5
  by_cases h6:r.typ=46
  ·have b2:(r.typ == 46)=true:=by rw[beq_iff_eq];exact h6
   have hr:zn.xK r=Lib.hasPrefix r.data.data.toList [0,50]:=by unfold zn.xK;rw[decide_eq_false h5,Bool.false_or,decide_eq_true h6,Bool.true_and]
   have HR:=Lib.hid hr
   clear hr h5 h6
   go_enter Tryz.func114,Tryz.ntmps114
   go_wp2_with fail
   refine(Tryz.strings_HasPrefix _ _ _).mono ?_
   rintro e w2 ⟨rfl,rfl⟩
   go_wp2_with fail
   go_ret
   exact⟨qI HR.out.symm,hB.out⟩
  ·have b2:(r.typ == 46)=false:=by rw[beq_eq_false_iff_ne];exact h6
   have hr:zn.xK r=false:=by unfold zn.xK;rw[decide_eq_false h5,Bool.false_or,decide_eq_false h6,Bool.false_and]
   have HR:=Lib.hid hr
   clear hr h5 h6
   go_enter Tryz.func114,Tryz.ntmps114
   go_wp2_with fail
   go_ret
   exact⟨qI HR.out.symm,hB.out⟩
@[reducible] def uz (at_ code:Int):Value:=.iface 135 (.agg #[.int .i64 at_,.int .i64 code])
def YS (n:Nat)(code:Int)(bad:Nat→Bool)(Inv:Nat→World→Prop)(e:Ending)(w':World):Prop:=
 (∃k:Nat,k<n∧bad k=true∧(∀j,j<k→bad j=false)∧e= .panicked [{ v:=uz k code,recovered:=false}]∧Inv (k+1) w')∨
 ((∀j,j<n→bad j=false)∧e= .returned (.tuple #[])∧Inv n w')
theorem YG (g:FuncId)(lb:Array Value)(heg:∀args w,(callFunc g args).run Tryz.prog w= .ok (.enter g args) w)(code:Int)(l:List Rec)(hl:l.length≤2000)(v:Value)(bad:Nat→Bool)(Inv:Nat→World→Prop)
 (hrec:∀k W,Inv k W→qz W v l) (hI:∀k W W',Inv k W→Below W.heap.size W W'→Inv k W')
 (hcall:∀k (hk:k<l.length) W,Inv k W→Calls Tryz.prog g (#[.int .i64 (k:Int),yA l[k]] ++ lb) W fun e W'=>e= .returned (.bool (bad k))∧Inv (k+1) W')
 (w:World) (h0:Inv 0 w):Calls Tryz.prog 110 #[v,.int .i64 code,.func (.func g) #[] lb] w fun e w'=>YS l.length code bad Inv e w':=by
 obtain⟨a,cap,rfl,hcap,_⟩:=hrec 0 w h0
 have HREC:=Lib.hid hrec;have HI:=Lib.hid hI;have KN:=Lib.hid hcall;have H0:=Lib.hid h0
 clear hrec hI hcall h0
 go_enter Tryz.func110,Tryz.ntmps110
 go_wp2_with fail
 go_loopw [10,6,7] (fun kv _ _ wr=>∃k:Nat,k≤l.length∧kv= .int .i64 k∧(∀j,j<k→bad j=false)∧Inv k wr) (fun kv _ _ _=>l.length-(intOf kv).toNat)
 case atStart=>exact⟨0,Nat.zero_le _,rfl,(fun j hj=>absurd hj (Nat.not_lt_zero _)),H0.out⟩
 case round=>
  obtain⟨k,hk,rfl,hbad,hinv⟩:=hrel
  have HBAD:=Lib.hid hbad;have HINV:=Lib.hid hinv
  clear hbad hinv
  by_cases hlt:k<l.length
  ·obtain⟨a',cap',hv,_,hr⟩:=HREC.out k wr HINV.out
   simp only[Value.slice.injEq,true_and]at hv
   obtain⟨rfl,rfl⟩:=hv
   obtain⟨b,off,rfl,hbl,c0,c1,c2,c3,c4⟩:=hr k hlt
   clear hr
   go_wp2_with fail
   refine(KN.out k hlt _ (HI.out k wr _ HINV.out ((Below.refl _ wr).alloc (Nat.le_refl _) _))).mono ?_
   rintro e w2 ⟨rfl,hinv2⟩
   have HINV2:=Lib.hid hinv2
   clear hinv2
   cases hb:bad k
   ·have HB:=Lib.hid hb
    clear hb
    go_wp2_with fail
    go_roundw
    case rel=>exact⟨k+1,by omega,by go_num,(fun j hj=>(Nat.lt_or_ge j k).elim (HBAD.out j) (fun h=>by rw[show j=k by omega];exact HB.out)),HINV2.out⟩
    case measure=>simp[intOf];omega
   ·have HB:=Lib.hid hb
    clear hb
    go_wp2_with fail
    exact⟨rfl,Or.inl ⟨k,hlt,HB.out,HBAD.out,rfl,HINV2.out⟩⟩
  ·have hke:k=l.length:=by omega
   subst hke
   go_wp2_with fail
   go_end0
   exact Or.inr ⟨HBAD.out,rfl,HINV.out⟩
end Go.Proofs.YtpcmilhjpmlbpaaGreatDoor
namespace Go.Proofs.YtpcmilhjpmlbpaaGreatDoor
open Go.RowKit Go.Shelf nm
namespace od
structure Cmp {α:Type}(c:α→α→Int):Prop where
 Ux:∀a b,c a b<0↔0<c b a
 trans:∀a b d,c a b≤0→c b d≤0→c a d≤0
section
variable {α:Type}{c:α→α→Int}(h:Cmp c)
include h
theorem Cmp.le (a b:α):c a b≤0↔0≤c b a:=by have:=h.Ux b a;omega
theorem Cmp.zero (a b:α):c a b=0↔c b a=0:=by have:=h.Ux a b;have:=h.Ux b a;omega
theorem Cmp.self (a:α):c a a=0:=by have:=h.Ux a a;omega
theorem Cmp.congr {a b:α}(e:c a b=0)(d:α):(c a d≤0↔c b d≤0)∧(0≤c a d↔0≤c b d):=by
 have e':=(h.zero a b).1 e
 have h1:=h.trans a b d
 have h2:=h.trans b a d
 have h3:=h.trans d a b
 have h4:=h.trans d b a
 have h5:=h.le d a
 have h6:=h.le d b
 omega
theorem Cmp.swo:Go.Sort.SWO (fun a b=>decide (c a b<0)) where
 irrefl:=fun x=>by have:=h.self x;simp;omega
 trans:=fun x y z h1 h2=>by
  simp only[decide_eq_true_eq]at *
  have a1:=h.trans x y z (by omega) (by omega)
  rcases Int.lt_or_eq_of_le a1 with h3 | h3
  ·exact h3
  ·have:=h.trans z x y (by have:=(h.zero x z).1 h3;omega) (by omega)
   have:=h.Ux y z
   omega
 ntrans:=fun x y z h1 h2=>by
  simp only[decide_eq_false_iff_not]at *
  have a1:=h.trans z y x (by have:=h.le z y;omega) (by have:=h.le y x;omega)
  have:=h.le z x
  omega
theorem Cmp.pull {β:Type}(f:β→α):Cmp (fun a b=>c (f a) (f b)):=⟨fun _ _=>h.Ux _ _,fun _ _ _=>h.trans _ _ _⟩
end
theorem Cmp.lex {α:Type}{c d:α→α→Int}(hc:Cmp c)(hd:Cmp d):Cmp (fun a b=>if c a b=0 then d a b else c a b) where
 Ux:=fun a b=>by
  have h1:=hc.zero a b
  have h2:=hc.Ux a b
  have h3:=hd.Ux a b
  show(if c a b=0 then d a b else c a b)<0↔0<(if c b a=0 then d b a else c b a)
  split <;> split <;> omega
 trans:=fun a b e h1 h2=>by
  show(if c a e=0 then d a e else c a e)≤0
  have k1:c a b≤0:=by revert h1;show(if c a b=0 then d a b else c a b)≤0→_;split <;> omega
  have k2:c b e≤0:=by revert h2;show(if c b e=0 then d b e else c b e)≤0→_;split <;> omega
  have k3:=hc.trans a b e k1 k2
  split
  ·rename_i h0
   have k4:c e a=0:=(hc.zero a e).1 h0
   have k5:=hc.trans e a b (by omega) k1
   have k6:=hc.le e b
   have k7:c b e=0:=by omega
   have k8:=hc.trans b e a k2 (by omega)
   have k9:=hc.le b a
   have k10:c a b=0:=by omega
   refine hd.trans a b e ?_ ?_
   ·revert h1;show(if c a b=0 then d a b else c a b)≤0→_;rw[if_pos k10];exact id
   ·revert h2;show(if c b e=0 then d b e else c b e)≤0→_;rw[if_pos k7];exact id
  ·exact k3
def uu {α:Type}(c:α→α→Int):List α→List α→Int
 | [],[]=>0
 | [],_ :: _=>-1
 | _ :: _,[]=>1
 | a :: x,b :: y=>if c a b=0 then uu c x y else c a b
theorem JL {α:Type}{c:α→α→Int}(hz:∀a b,c a b=0↔a=b):∀x y:List α,uu c x y=0↔x=y
 | [],[]=>by simp[uu]
 | [],_ :: _=>by simp[uu]
 | _ :: _,[]=>by simp[uu]
 | a :: x,b :: y=>by
   rw[uu]
   by_cases e:c a b=0
   ·rw[if_pos e,JL hz x y,(hz a b).1 e];simp
   ·rw[if_neg e]
    constructor
    ·intro h;exact absurd h e
    ·intro h;injection h with h1 h2;exact absurd ((hz a b).2 h1) e
theorem Cmp.list {α:Type}{c:α→α→Int}(hc:Cmp c):Cmp (uu c) where
 Ux:=by
  intro x
  induction x with
  | nil=>intro y;cases y <;> simp[uu]
  | cons a x ih=>
    intro y
    cases y with
    | nil=>simp[uu]
    | cons b y=>
      rw[uu,uu]
      have h1:=hc.zero a b
      have h2:=hc.Ux a b
      have h3:=ih y
      split <;> split <;> omega
 trans:=by
  intro x
  induction x with
  | nil=>intro y z _ _;cases z <;> simp[uu]
  | cons a x ih=>
    intro y z h1 h2
    cases y with
    | nil=>simp[uu]at h1
    | cons b y=>
      cases z with
      | nil=>simp[uu]at h2
      | cons e z=>
        rw[uu]at *
        have k1:c a b≤0:=by revert h1;split <;> omega
        have k2:c b e≤0:=by revert h2;split <;> omega
        have k3:=hc.trans a b e k1 k2
        split
        ·rename_i h0
         have k4:c e a=0:=(hc.zero a e).1 h0
         have k5:=hc.trans e a b (by omega) k1
         have k6:=hc.le e b
         have k7:c b e=0:=by omega
         have k8:=hc.trans b e a k2 (by omega)
         have k9:=hc.le b a
         have k10:c a b=0:=by omega
         rw[if_pos k10]at h1
         rw[if_pos k7]at h2
         exact ih y z h1 h2
        ·exact k3
def U4 (a b:UInt8):Int:=if a<b then -1 else if b<a then 1 else 0
theorem byteC_cmp:Cmp U4 where
 Ux:=fun a b=>by
  unfold U4
  simp only[UInt8.lt_iff_toNat_lt]
  repeat' split
  all_goals omega
 trans:=fun a b d=>by
  unfold U4
  simp only[UInt8.lt_iff_toNat_lt]
  repeat' split
  all_goals omega
theorem byteC_zero (a b:UInt8):U4 a b=0↔a=b:=by
 unfold U4
 simp only[UInt8.lt_iff_toNat_lt,← UInt8.toNat_inj]
 repeat' split
 all_goals omega
theorem xM:∀x y:List UInt8,Lib.compareBytes x y=uu U4 x y
 | [],[]=>rfl
 | [],_ :: _=>rfl
 | _ :: _,[]=>rfl
 | a :: x,b :: y=>by
   rw[Lib.compareBytes,uu,xM x y]
   unfold U4
   repeat' split
   all_goals first | omega | rfl | simp_all
theorem bytes_cmp:Cmp Lib.compareBytes:=by
 have:Lib.compareBytes=uu U4:=by funext x y;exact xM x y
 rw[this];exact byteC_cmp.list
theorem bytes_zero (x y:List UInt8):Lib.compareBytes x y=0↔x=y:=by rw[xM];exact JL byteC_zero x y
theorem text_cmp:Cmp (fun a b:ByteArray=>Lib.compareBytes a.data.toList b.data.toList):=bytes_cmp.pull fun a:ByteArray=>a.data.toList
theorem text_zero (a b:ByteArray):Lib.compareBytes a.data.toList b.data.toList=0↔a=b:=by
 rw[bytes_zero]
 exact⟨ZU,fun h=>by rw[h]⟩
theorem int_cmp:Cmp Lib.compareInt where
 Ux:=fun a b=>by unfold Lib.compareInt;repeat' split
                 all_goals omega
 trans:=fun a b d=>by unfold Lib.compareInt;repeat' split
                      all_goals omega
theorem Xr (a b:Int):Lib.compareInt a b=0↔a=b:=by
 unfold Lib.compareInt
 repeat' split
 all_goals omega
theorem JQ:∀x y:List ByteArray,yc x y=uu (fun a b:ByteArray=>Lib.compareBytes a.data.toList b.data.toList) x y
 | [],[]=>rfl
 | [],_ :: _=>rfl
 | _ :: _,[]=>rfl
 | a :: x,b :: y=>by rw[yc,uu,JQ x y]
theorem rowsC_cmp:Cmp yc:=by
 have:yc=uu (fun a b:ByteArray=>Lib.compareBytes a.data.toList b.data.toList):=by funext x y;exact JQ x y
 rw[this];exact text_cmp.list
theorem rowsC_zero (x y:List ByteArray):yc x y=0↔x=y:=by rw[JQ];exact JL text_zero x y
theorem Yu:∀(ls:List (List UInt8)) (k:Nat),QA ls→uM (jE k ls)=ls.map fun l=>⟨l.toArray⟩:=by
 intro ls
 induction ls with
 | nil=>
   intro k _
   simp[uM,jE]
 | cons l ls ih=>
   intro k h
   have h1:=ih (k+1+l.length) (fun x hx=>h x (by simp[hx]))
   have h2:=h l (by simp)
   unfold uM at h1 ⊢
   rw[jE,List.map_cons,List.filter_cons_of_pos,h1]
   ·rfl
   ·rw[ByteArray.toList_eq]
    cases l with
    | nil=>exact absurd h2 (by simp)
    | cons c l=>rfl
theorem labelsL_rows {s:ByteArray}{ls:List (List UInt8)}(h:rows s=some ls):yN s=ls.map fun l=>⟨l.toArray⟩:=by
 obtain⟨_,h2,_,h4⟩:=zS h
 unfold yN
 rw[if_pos (Qx h),h4]
 exact Yu ls 0 h2
def Kr (s:ByteArray):List ByteArray:=(yN (j5 s)).reverse
theorem Xj {s:ByteArray}{ls:List (List UInt8)}(h:rows s=some ls):Kr s=((je ls).map fun l=>(⟨l.toArray⟩:ByteArray)).reverse:=by
 unfold Kr
 rw[labelsL_rows (Kh h)]
theorem KH {a b:ByteArray}(ha:qj a=true)(hb:qj b=true):zg a b=yc (Kr a) (Kr b):=by
 unfold zg
 rw[if_pos ⟨ha,hb⟩]
 rfl
theorem mk_inj:∀x y:List (List UInt8),(x.map fun l=>(⟨l.toArray⟩:ByteArray))=(y.map fun l=>(⟨l.toArray⟩:ByteArray))→x=y
 | [],[],_=>rfl
 | [],_ :: _,h=>by simp at h
 | _ :: _,[],h=>by simp at h
 | a :: x,b :: y,h=>by
   simp only[List.map_cons,List.cons.injEq]at h
   rw[mk_inj x y h.2]
   have:=congrArg (fun s:ByteArray=>s.data.toList) h.1
   simp only at this
   rw[this]
theorem nameK_inj {a b:ByteArray}(ha:qj a=true)(hb:qj b=true):Kr a=Kr b↔qw a=qw b:=by
 obtain⟨x,hx⟩:=yL ha
 obtain⟨y,hy⟩:=yL hb
 rw[Xj hx,Xj hy,uN hx,uN hy]
 constructor
 ·intro h
  rw[mk_inj _ _ (List.reverse_inj.1 h)]
 ·intro h
  obtain⟨a1,a2,_,_⟩:=zS hx
  obtain⟨b1,b2,_,_⟩:=zS hy
  rw[Xi (Qc a2) (Qc b2) (by rw[xW a2,Zd hx];exact a1) h]
theorem compareI_zero {a b:ByteArray}(ha:qj a=true)(hb:qj b=true):zg a b=0↔qw a=qw b:=by
 rw[KH ha hb,rowsC_zero,nameK_inj ha hb]
abbrev Nm:={ s:ByteArray // qj s=true}
theorem names_cmp:Cmp (fun a b:Nm=>zg a.1 b.1):=by
 have h:(fun a b:Nm=>zg a.1 b.1)=fun a b:Nm=>yc (Kr a.1) (Kr b.1):=by funext a b;exact KH a.2 b.2
 rw[h]
 exact rowsC_cmp.pull fun a:Nm=>Kr a.1
abbrev YM:={ r:Rec // qj r.owner=true}
theorem Ue (x y:Rec):zn.zR x y=if zg x.owner y.owner=0 then(if Lib.compareInt x.typ y.typ=0 then Lib.compareBytes (dt.zU x.typ x.data).data.toList (dt.zU y.typ y.data).data.toList else Lib.compareInt x.typ y.typ) else zg x.owner y.owner:=by
 unfold zn.zR zn.orL zn.orL zn.orL zn.orL
 repeat' split
 all_goals first | rfl | omega
theorem Zg:Cmp (fun a b:YM=>zn.zR a.1 b.1):=by
 have h:(fun a b:YM=>zn.zR a.1 b.1)=fun a b:YM=>if zg a.1.owner b.1.owner=0 then(if Lib.compareInt a.1.typ b.1.typ=0 then Lib.compareBytes (dt.zU a.1.typ a.1.data).data.toList (dt.zU b.1.typ b.1.data).data.toList else Lib.compareInt a.1.typ b.1.typ) else zg a.1.owner b.1.owner:=by
  funext a b;exact Ue _ _
 rw[h]
 exact(names_cmp.pull fun a:YM=>(⟨a.1.owner,a.2⟩:Nm)).lex ((int_cmp.pull fun a:YM=>a.1.typ).lex (text_cmp.pull fun a:YM=>dt.zU a.1.typ a.1.data))
theorem orderI_zero {x y:Rec}(hx:qj x.owner=true)(hy:qj y.owner=true):zn.zR x y=0↔qw x.owner=qw y.owner∧x.typ=y.typ∧dt.zU x.typ x.data=dt.zU y.typ y.data:=by
 rw[Ue]
 have h1:=compareI_zero hx hy
 have h2:=Xr x.typ y.typ
 have h3:=text_zero (dt.zU x.typ x.data) (dt.zU y.typ y.data)
 by_cases e1:zg x.owner y.owner=0
 ·rw[if_pos e1]
  by_cases e2:Lib.compareInt x.typ y.typ=0
  ·rw[if_pos e2,h3]
   exact⟨fun h=>⟨h1.1 e1,h2.1 e2,h⟩,fun h=>h.2.2⟩
  ·rw[if_neg e2]
   exact⟨fun h=>absurd h e2,fun h=>absurd (h2.2 h.2.1) e2⟩
 ·rw[if_neg e1]
  exact⟨fun h=>absurd h e1,fun h=>absurd (h1.2 h.1) e1⟩
section
variable {α:Type}{c:α→α→Int}
end
end od
end Go.Proofs.YtpcmilhjpmlbpaaGreatDoor
