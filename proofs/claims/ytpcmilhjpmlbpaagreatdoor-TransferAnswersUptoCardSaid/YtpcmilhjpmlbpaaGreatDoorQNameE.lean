import Derived.Test.YtpcmilhjpmlbpaaGreatDoorQNameA
import Derived.Test.YtpcmilhjpmlbpaaGreatDoorQShelf
import Derived.Deep.QuietTactic
import Derived.BigQuiet
import Derived.Lib.Bytealg
import Derived.Lib.Strings
set_option maxRecDepth 100000
set_option maxHeartbeats 2000000
namespace Go.Proofs.YtpcmilhjpmlbpaaGreatDoor
open Go.RowKit Go.Shelf nm
theorem qQ {a b:Int}(h:a=b):Ending.returned (.int .i64 a)= .returned (.int .i64 b):=by rw[h]
theorem Je (n:Int)(d:ByteArray)(w:World):Calls Tryz.prog 228 #[.int .i64 n,.string d] w fun e W'=>e= .returned (.int .i64 (dt.xR n d))∧w=W':=by
 by_cases h:(d.size:Int)<n
 ·go_enter Tryz.func228,Tryz.ntmps228
  go_wp2
  go_ret;exact⟨qQ (by rw[dt.xR,if_pos h]),rfl⟩
 ·go_enter Tryz.func228,Tryz.ntmps228
  go_wp2
  go_ret;exact⟨qQ (by rw[dt.xR,if_neg (by omega)]),rfl⟩
theorem ip4_take (d:ByteArray)(w:World):Calls Tryz.prog 231 #[.agg #[],.string d] w fun e W'=>e= .returned (.int .i64 (dt.xR 4 d))∧Below w.heap.size w W':=by
 have hB:=(Below.refl _ w).alloc (Nat.le_refl _) (.cells #[] 239)
 go_enter Tryz.func231,Tryz.ntmps231
 go_wp2_with (go_at_call 228;refine(Je _ _ _).mono ?_;rintro e w1 ⟨rfl,rfl⟩);go_ret;exact⟨rfl,hB⟩
theorem ip6_take (d:ByteArray)(w:World):Calls Tryz.prog 240 #[.agg #[],.string d] w fun e W'=>e= .returned (.int .i64 (dt.xR 16 d))∧Below w.heap.size w W':=by
 have hB:=(Below.refl _ w).alloc (Nat.le_refl _) (.cells #[] 242)
 go_enter Tryz.func240,Tryz.ntmps240
 go_wp2_with (go_at_call 228;refine(Je _ _ _).mono ?_;rintro e w1 ⟨rfl,rfl⟩);go_ret;exact⟨rfl,hB⟩
theorem some_any (d:ByteArray)(w:World):Calls Tryz.prog 244 #[.string d] w fun e W'=>e= .returned (.int .i64 (dt.Qd d))∧w=W':=by
 by_cases h:d.size=0
 ·have b0:=yQ h;have H:=qe h;clear h
  go_enter Tryz.func244,Tryz.ntmps244
  go_wp2
  go_ret;exact⟨qQ (by rw[dt.Qd,if_pos H.out]),rfl⟩
 ·have b0:=ji h
  go_enter Tryz.func244,Tryz.ntmps244
  go_wp2
  go_ret;exact⟨qQ (by rw[dt.Qd,if_neg h]),rfl⟩
theorem hexes_take (d:ByteArray)(w:World):Calls Tryz.prog 243 #[.agg #[],.string d] w fun e W'=>e= .returned (.int .i64 (dt.Qd d))∧Below w.heap.size w W':=by
 have hB:=(Below.refl _ w).alloc (Nat.le_refl _) (.cells #[] 243)
 go_enter Tryz.func243,Tryz.ntmps243
 go_wp2_with (go_at_call 244;refine(some_any _ _).mono ?_;rintro e w1 ⟨rfl,rfl⟩);go_ret;exact⟨rfl,hB⟩
theorem b64_take (d:ByteArray)(w:World):Calls Tryz.prog 251 #[.agg #[],.string d] w fun e W'=>e= .returned (.int .i64 (dt.Qd d))∧Below w.heap.size w W':=by
 have hB:=(Below.refl _ w).alloc (Nat.le_refl _) (.cells #[] 245)
 go_enter Tryz.func251,Tryz.ntmps251
 go_wp2_with (go_at_call 244;refine(some_any _ _).mono ?_;rintro e w1 ⟨rfl,rfl⟩);go_ret;exact⟨rfl,hB⟩
theorem tail_take (d:ByteArray)(w:World):Calls Tryz.prog 264 #[.agg #[],.string d] w fun e W'=>e= .returned (.int .i64 d.size)∧Below w.heap.size w W':=by
 have hB:=(Below.refl _ w).alloc (Nat.le_refl _) (.cells #[] 249)
 go_enter Tryz.func264,Tryz.ntmps264
 go_wp2
 go_ret;exact⟨rfl,hB⟩
theorem Z4 (d:ByteArray)(w:World):Calls Tryz.prog 234 #[.agg #[],.string d] w fun e W'=>e= .returned (.int .i64 (dt.yT d))∧Below w.heap.size w W':=by
 have hB:=(Below.refl _ w).alloc (Nat.le_refl _) (.cells #[] 240);by_cases h:d.size=0
 ·have b0:=yQ h;have H:=qe h;clear h
  go_enter Tryz.func234,Tryz.ntmps234
  go_wp2
  go_ret;exact⟨qQ (by rw[dt.yT,if_pos H.out]),hB⟩
 ·have b0:=ji h;have hp:0<d.size:=by omega
  have hs:=zy hp;have Xn:(d[0].toNat:Int)<256:=by have:=UInt8.toNat_lt d[0];omega
  have HS:=qe hs;clear hs;by_cases hl:(d.size:Int)≤d[0].toNat
  ·go_enter Tryz.func234,Tryz.ntmps234
   go_wp2
   go_ret;exact⟨qQ (by rw[dt.yT,if_neg h,HS.out,if_pos (by omega)]),hB⟩
  ·go_enter Tryz.func234,Tryz.ntmps234
   go_wp2
   go_ret;exact⟨qQ (by rw[dt.yT,if_neg h,HS.out,if_neg (by omega)]),hB⟩
theorem salt_take (d:ByteArray)(w:World):Calls Tryz.prog 258 #[.agg #[],.string d] w fun e W'=>e= .returned (.int .i64 (dt.yT d))∧Below w.heap.size w W':=by
 have hB:=(Below.refl _ w).alloc (Nat.le_refl _) (.cells #[] 247)
 go_enter Tryz.func258,Tryz.ntmps258
 go_wp2_with (go_at_call 234;refine(Z4 _ _).mono ?_;rintro e w1 ⟨rfl,hB1⟩);go_ret;exact⟨rfl,hB.trans (hB1.mono (by simp))⟩
theorem hash_take (d:ByteArray)(w:World):Calls Tryz.prog 261 #[.agg #[],.string d] w fun e W'=>e= .returned (.int .i64 (dt.Yj d))∧Below w.heap.size w W':=by
 have hB:=(Below.refl _ w).alloc (Nat.le_refl _) (.cells #[] 248);by_cases h:d.size=0
 ·have b0:=yQ h;have H:=qe h;clear h
  go_enter Tryz.func261,Tryz.ntmps261
  go_wp2
  go_ret;exact⟨qQ (by rw[dt.Yj,if_pos H.out]),hB⟩
 ·have b0:=ji h;have hp:0<d.size:=by omega
  have hs:=zy hp;have HS:=qe hs;clear hs;by_cases hl:d[0].toNat=0
  ·have b1:((d[0].toNat:Int) == 0)=true:=by rw[beq_iff_eq];omega
   have HL:=qe hl;clear hl
   go_enter Tryz.func261,Tryz.ntmps261
   go_wp2
   go_ret;exact⟨qQ (by rw[dt.Yj,if_neg h,HS.out,if_pos HL.out]),hB⟩
  ·have b1:((d[0].toNat:Int) == 0)=false:=by rw[beq_eq_false_iff_ne];omega
   go_enter Tryz.func261,Tryz.ntmps261
   go_wp2_with (go_at_call 234;refine(Z4 _ _).mono ?_;rintro e w1 ⟨rfl,hB1⟩);go_ret;exact⟨qQ (by rw[dt.Yj,if_neg h,HS.out,if_neg hl]),hB.trans (hB1.mono (by simp))⟩
theorem texts_take (d:ByteArray)(hd:d.size≤65535)(w:World):Calls Tryz.prog 237 #[.agg #[],.string d] w fun e W'=>e= .returned (.int .i64 (dt.QW d))∧Below w.heap.size w W':=by
 have hB:=qe ((Below.refl _ w).alloc (Nat.le_refl _) (.cells #[] 241))
 go_enter Tryz.func237,Tryz.ntmps237
 go_wp2
 go_loopw [5,6] (fun i _ wr=>∃k f:Nat,k≤d.size∧d.size<k+f∧i= .int .i64 k∧dt.QW d=dt.jZ d f k∧Below w.heap.size w wr) (fun i _ _=>d.size-(intOf i).toNat)
 case atStart=>exact⟨0,d.size+1,by omega,by omega,rfl,rfl,hB.out⟩
 case round=>
  obtain⟨k,f,hk,hf,rfl,he,hb⟩:=hrel;obtain⟨f,rfl⟩:∃g,f=g+1:=⟨f-1,by omega⟩;have HE:=qe he;have HB:=qe hb;clear he hb;by_cases hlt:k<d.size
  ·rcases dt.Zr (d.extract k d.size) with hn | ⟨hn1,hn2,hn3⟩
   ·have hn':dt.yT (d.extract k d.size)<0:=by omega
    have hfin:dt.QW d= -1:=by rw[HE.out,dt.VM hlt hn']
    have HN:=qe hn;have HF:=qe hfin;clear hn hfin;go_wp2_with (go_at_call 234;refine(Z4 _ _).mono ?_;rintro e w1 ⟨rfl,hB1⟩);go_ret;exact⟨qQ HF.out.symm,HB.out.trans (hB1.mono HB.out.size)⟩
   ·rw[dt.size_extract d hk]at hn2;have hfin:dt.QW d=dt.jZ d f (k+(dt.yT (d.extract k d.size)).toNat):=by rw[HE.out,dt.K7 hlt (by omega)]
    have HF:=qe hfin;clear hfin;go_wp2_with (go_at_call 234;refine(Z4 _ _).mono ?_;rintro e w1 ⟨rfl,hB1⟩)
    go_roundw
    case rel=>exact⟨k+(dt.yT (d.extract k d.size)).toNat,f,by omega,by omega,by rw[Int.natCast_add,Int.toNat_of_nonneg (by omega)],HF.out,HB.out.trans (hB1.mono HB.out.size)⟩
    case measure=>simp[intOf];omega
  ·have hke:k=d.size:=by omega
   have hfin:dt.QW d=if k=0 then -1 else(k:Int):=by rw[HE.out,dt.K3 (by omega)]
   have HF:=qe hfin;clear hfin;by_cases h0:k=0
   ·have b0:((k:Int) == 0)=true:=by rw[beq_iff_eq];omega
    have H0:=qe h0;clear hke h0
    go_wp2
    go_ret;exact⟨qQ (by rw[HF.out,if_pos H0.out]),HB.out⟩
   ·have b0:((k:Int) == 0)=false:=by rw[beq_eq_false_iff_ne];omega
    clear hke
    go_wp2
    go_ret;exact⟨qQ (by rw[HF.out,if_neg h0]),HB.out⟩
theorem host_take (d:ByteArray)(hd:d.size≤65535)(w:World):Calls Tryz.prog 225 #[.agg #[],.string d] w fun e W'=>e= .returned (.int .i64 (dt.QC d))∧Below w.heap.size w W':=by
 have hB:=qe ((Below.refl _ w).alloc (Nat.le_refl _) (.cells #[] 220))
 go_enter Tryz.func225,Tryz.ntmps225
 go_wp2
 go_loopw [5] (fun i wr=>∃k f:Nat,k≤d.size+256∧d.size<k+f∧i= .int .i64 k∧dt.xZ d=dt.ZO d f k∧Below w.heap.size w wr) (fun i _=>d.size+256-(intOf i).toNat)
 case atStart=>exact⟨0,d.size+1,by omega,by omega,rfl,rfl,hB.out⟩
 case round=>
  obtain⟨k,f,hk,hf,rfl,he,hb⟩:=hrel;have HE:=qe he;have HB:=qe hb;clear he hb;by_cases hlt:k<d.size
  ·obtain⟨f,rfl⟩:∃g,f=g+1:=⟨f-1,by omega⟩;have hsz:=zy hlt;have Xn:(d[k].toNat:Int)<256:=by have:=UInt8.toNat_lt d[k];omega
   have hge:(0:Int)≤d[k].toNat:=by omega
   by_cases hz:0<d[k].toNat
   ·have hz':(0:Int)<d[k].toNat:=by omega
    have hfin:dt.xZ d=dt.ZO d f (k+1+d[k].toNat):=by rw[HE.out,dt.V4 hlt (by omega),hsz]
    have HF:=qe hfin;clear hfin hsz
    go_wp2
    go_roundw
    case rel=>exact⟨k+1+d[k].toNat,f,by omega,by omega,by go_num,HF.out,HB.out⟩
    case measure=>simp[intOf];omega
   ·have hz':¬(0:Int)<d[k].toNat:=by omega
    have hfin:dt.xZ d=k:=by rw[HE.out,dt.Jm (by omega)]
    have hres:dt.QC d=if qo (d.extract 0 (k+1))=true then(k:Int)+1 else -1:=by rw[dt.QC,hfin,if_neg (by omega)]
    have HR:=qe hres;clear hfin hsz hres
    cases hc:qo (d.extract 0 (k+1))
    ·have HC:=qe hc;clear hc;go_wp2_with (go_at_call 47;refine(zt _ _).mono ?_;rintro e w1 ⟨rfl,hB1⟩;rw[HC.out,Yf]);go_ret;exact⟨qQ (by rw[HR.out,HC.out];rfl),HB.out.trans (hB1.mono HB.out.size)⟩
    ·have HC:=qe hc;clear hc;go_wp2_with (go_at_call 47;refine(zt _ _).mono ?_;rintro e w1 ⟨rfl,hB1⟩;rw[HC.out,vK]);go_ret;exact⟨qQ (by rw[HR.out,HC.out];rfl),HB.out.trans (hB1.mono HB.out.size)⟩
  ·have hfin:dt.xZ d=k:=by rw[HE.out,dt.Jm (by omega)]
   have hres:dt.QC d= -1:=by rw[dt.QC,hfin,if_pos (by omega)]
   have HR:=qe hres;clear hfin hres
   go_wp2
   go_ret;exact⟨qQ HR.out.symm,HB.out⟩
end Go.Proofs.YtpcmilhjpmlbpaaGreatDoor
namespace Go.Proofs.YtpcmilhjpmlbpaaGreatDoor
open Go.RowKit Go.Shelf
namespace dt
inductive Fld where
 | num (n:Int) | ip4 | ip6 | host | text | texts | tail | Jn | b64 | kind | kinds | Uf | hash
 deriving DecidableEq
def ui (t:Int):Option (List Fld):=
 if t=1 then some [.ip4] else
 if t=2 then some [.host] else
 if t=5 then some [.host] else
 if t=6 then some [.host,.host,.num 4,.num 4,.num 4,.num 4,.num 4] else
 if t=12 then some [.host] else
 if t=13 then some [.text,.text] else
 if t=15 then some [.num 2,.host] else
 if t=16 then some [.texts] else
 if t=28 then some [.ip6] else
 if t=33 then some [.num 2,.num 2,.num 2,.host] else
 if t=35 then some [.num 2,.num 2,.text,.text,.text,.host] else
 if t=39 then some [.host] else
 if t=43 then some [.num 2,.num 1,.num 1,.Jn] else
 if t=46 then some [.kind,.num 1,.num 1,.num 4,.num 4,.num 4,.num 2,.host,.b64] else
 if t=47 then some [.host,.kinds] else
 if t=48 then some [.num 2,.num 1,.num 1,.b64] else
 if t=50 then some [.num 1,.num 1,.num 2,.Uf,.hash,.kinds] else
 if t=51 then some [.num 1,.num 1,.num 2,.Uf] else
 if t=257 then some [.num 1,.text,.tail] else
 none
theorem formF_none {t:Int}(h1:t≠1)(h2:t≠2)(h5:t≠5)(h6:t≠6)(h12:t≠12)(h13:t≠13)(h15:t≠15)(h16:t≠16)(h28:t≠28)(h33:t≠33)(h35:t≠35)(h39:t≠39)(h43:t≠43)(h46:t≠46)(h47:t≠47)(h48:t≠48)(h50:t≠50)(h51:t≠51)(Zj:t≠257):ui t=none:=by
 unfold ui;rw[if_neg h1,if_neg h2,if_neg h5,if_neg h6,if_neg h12,if_neg h13,if_neg h15,if_neg h16,if_neg h28,if_neg h33,if_neg h35,if_neg h39,if_neg h43,if_neg h46,if_neg h47,if_neg h48,if_neg h50,if_neg h51,if_neg Zj]
end dt
open dt (Fld)
def tyF:Fld→TypeId
 | .num _=>238
 | .ip4=>239
 | .ip6=>242
 | .host=>220
 | .text=>240
 | .texts=>241
 | .tail=>249
 | .Jn=>243
 | .b64=>245
 | .kind=>244
 | .kinds=>246
 | .Uf=>247
 | .hash=>248
def recvF:Fld→Value
 | .num n=>.int .i64 n
 | _=>.agg #[]
@[reducible] def encF (f:Fld):Value:=.iface (tyF f) (recvF f)
def kz (fs:List Fld)(w:World)(e:Ending)(w':World):Prop:=
 e= .returned (.tuple #[.slice (some ⟨w.heap.size,0,none⟩) fs.length fs.length,.bool true])∧w'=w.alloc (.cells (fs.map encF).toArray 218)
def Qu (t:Int)(w:World)(e:Ending)(w':World):Prop:=
 match dt.ui t with
 | some fs=>kz fs w e w'
 | none=>e= .returned (.tuple #[.slice none 0 0,.bool false])∧w'=w
theorem form_1 (w:World):Calls Tryz.prog 150 #[.int .i64 1] w fun e w'=>kz [.ip4] w e w':=by
 go_enter Tryz.func150,Tryz.ntmps150
 go_wp2
 go_ret2;exact⟨rfl,rfl⟩
theorem form_2 (w:World):Calls Tryz.prog 150 #[.int .i64 2] w fun e w'=>kz [.host] w e w':=by
 go_enter Tryz.func150,Tryz.ntmps150
 go_wp2
 go_ret2;exact⟨rfl,rfl⟩
theorem form_5 (w:World):Calls Tryz.prog 150 #[.int .i64 5] w fun e w'=>kz [.host] w e w':=by
 go_enter Tryz.func150,Tryz.ntmps150
 go_wp2
 go_ret2;exact⟨rfl,rfl⟩
theorem form_6 (w:World):Calls Tryz.prog 150 #[.int .i64 6] w fun e w'=>kz [.host,.host,.num 4,.num 4,.num 4,.num 4,.num 4] w e w':=by
 go_enter Tryz.func150,Tryz.ntmps150
 go_wp2
 go_ret2;exact⟨rfl,rfl⟩
theorem form_12 (w:World):Calls Tryz.prog 150 #[.int .i64 12] w fun e w'=>kz [.host] w e w':=by
 go_enter Tryz.func150,Tryz.ntmps150
 go_wp2
 go_ret2;exact⟨rfl,rfl⟩
theorem form_13 (w:World):Calls Tryz.prog 150 #[.int .i64 13] w fun e w'=>kz [.text,.text] w e w':=by
 go_enter Tryz.func150,Tryz.ntmps150
 go_wp2
 go_ret2;exact⟨rfl,rfl⟩
theorem form_15 (w:World):Calls Tryz.prog 150 #[.int .i64 15] w fun e w'=>kz [.num 2,.host] w e w':=by
 go_enter Tryz.func150,Tryz.ntmps150
 go_wp2
 go_ret2;exact⟨rfl,rfl⟩
theorem form_16 (w:World):Calls Tryz.prog 150 #[.int .i64 16] w fun e w'=>kz [.texts] w e w':=by
 go_enter Tryz.func150,Tryz.ntmps150
 go_wp2
 go_ret2;exact⟨rfl,rfl⟩
theorem form_28 (w:World):Calls Tryz.prog 150 #[.int .i64 28] w fun e w'=>kz [.ip6] w e w':=by
 go_enter Tryz.func150,Tryz.ntmps150
 go_wp2
 go_ret2;exact⟨rfl,rfl⟩
theorem form_33 (w:World):Calls Tryz.prog 150 #[.int .i64 33] w fun e w'=>kz [.num 2,.num 2,.num 2,.host] w e w':=by
 go_enter Tryz.func150,Tryz.ntmps150
 go_wp2
 go_ret2;exact⟨rfl,rfl⟩
theorem form_35 (w:World):Calls Tryz.prog 150 #[.int .i64 35] w fun e w'=>kz [.num 2,.num 2,.text,.text,.text,.host] w e w':=by
 go_enter Tryz.func150,Tryz.ntmps150
 go_wp2
 go_ret2;exact⟨rfl,rfl⟩
theorem form_39 (w:World):Calls Tryz.prog 150 #[.int .i64 39] w fun e w'=>kz [.host] w e w':=by
 go_enter Tryz.func150,Tryz.ntmps150
 go_wp2
 go_ret2;exact⟨rfl,rfl⟩
theorem form_43 (w:World):Calls Tryz.prog 150 #[.int .i64 43] w fun e w'=>kz [.num 2,.num 1,.num 1,.Jn] w e w':=by
 go_enter Tryz.func150,Tryz.ntmps150
 go_wp2
 go_ret2;exact⟨rfl,rfl⟩
theorem form_46 (w:World):Calls Tryz.prog 150 #[.int .i64 46] w fun e w'=>kz [.kind,.num 1,.num 1,.num 4,.num 4,.num 4,.num 2,.host,.b64] w e w':=by
 go_enter Tryz.func150,Tryz.ntmps150
 go_wp2
 go_ret2;exact⟨rfl,rfl⟩
theorem form_47 (w:World):Calls Tryz.prog 150 #[.int .i64 47] w fun e w'=>kz [.host,.kinds] w e w':=by
 go_enter Tryz.func150,Tryz.ntmps150
 go_wp2
 go_ret2;exact⟨rfl,rfl⟩
theorem form_48 (w:World):Calls Tryz.prog 150 #[.int .i64 48] w fun e w'=>kz [.num 2,.num 1,.num 1,.b64] w e w':=by
 go_enter Tryz.func150,Tryz.ntmps150
 go_wp2
 go_ret2;exact⟨rfl,rfl⟩
theorem form_50 (w:World):Calls Tryz.prog 150 #[.int .i64 50] w fun e w'=>kz [.num 1,.num 1,.num 2,.Uf,.hash,.kinds] w e w':=by
 go_enter Tryz.func150,Tryz.ntmps150
 go_wp2
 go_ret2;exact⟨rfl,rfl⟩
theorem form_51 (w:World):Calls Tryz.prog 150 #[.int .i64 51] w fun e w'=>kz [.num 1,.num 1,.num 2,.Uf] w e w':=by
 go_enter Tryz.func150,Tryz.ntmps150
 go_wp2
 go_ret2;exact⟨rfl,rfl⟩
theorem form_257 (w:World):Calls Tryz.prog 150 #[.int .i64 257] w fun e w'=>kz [.num 1,.text,.tail] w e w':=by
 go_enter Tryz.func150,Tryz.ntmps150
 go_wp2
 go_ret2;exact⟨rfl,rfl⟩
theorem form_no (t:Int)(h1:t≠1)(h2:t≠2)(h5:t≠5)(h6:t≠6)(h12:t≠12)(h13:t≠13)(h15:t≠15)(h16:t≠16)(h28:t≠28)(h33:t≠33)(h35:t≠35)(h39:t≠39)(h43:t≠43)(h46:t≠46)(h47:t≠47)(h48:t≠48)(h50:t≠50)(h51:t≠51)(Zj:t≠257)(w:World):Calls Tryz.prog 150 #[.int .i64 t] w fun e w'=>e= .returned (.tuple #[.slice none 0 0,.bool false])∧w'=w:=by
 have b1:(t == 1)=false:=by rw[beq_eq_false_iff_ne];exact h1
 have b2:(t == 2)=false:=by rw[beq_eq_false_iff_ne];exact h2
 have b5:(t == 5)=false:=by rw[beq_eq_false_iff_ne];exact h5
 have b6:(t == 6)=false:=by rw[beq_eq_false_iff_ne];exact h6
 have b12:(t == 12)=false:=by rw[beq_eq_false_iff_ne];exact h12
 have b13:(t == 13)=false:=by rw[beq_eq_false_iff_ne];exact h13
 have b15:(t == 15)=false:=by rw[beq_eq_false_iff_ne];exact h15
 have b16:(t == 16)=false:=by rw[beq_eq_false_iff_ne];exact h16
 have b28:(t == 28)=false:=by rw[beq_eq_false_iff_ne];exact h28
 have b33:(t == 33)=false:=by rw[beq_eq_false_iff_ne];exact h33
 have b35:(t == 35)=false:=by rw[beq_eq_false_iff_ne];exact h35
 have b39:(t == 39)=false:=by rw[beq_eq_false_iff_ne];exact h39
 have b43:(t == 43)=false:=by rw[beq_eq_false_iff_ne];exact h43
 have b46:(t == 46)=false:=by rw[beq_eq_false_iff_ne];exact h46
 have b47:(t == 47)=false:=by rw[beq_eq_false_iff_ne];exact h47
 have b48:(t == 48)=false:=by rw[beq_eq_false_iff_ne];exact h48
 have b50:(t == 50)=false:=by rw[beq_eq_false_iff_ne];exact h50
 have b51:(t == 51)=false:=by rw[beq_eq_false_iff_ne];exact h51
 have b257:(t == 257)=false:=by rw[beq_eq_false_iff_ne];exact Zj
 clear h1 h2 h5 h6 h12 h13 h15 h16 h28 h33 h35 h39 h43 h46 h47 h48 h50 h51 Zj
 go_enter Tryz.func150,Tryz.ntmps150
 go_wp2
 go_ret2;exact⟨rfl,rfl⟩
theorem Yn (t:Int)(w:World):Calls Tryz.prog 150 #[.int .i64 t] w fun e w'=>Qu t w e w':=by
 by_cases h1:t=1
 ·subst h1;exact form_1 w
 by_cases h2:t=2
 ·subst h2;exact form_2 w
 by_cases h5:t=5
 ·subst h5;exact form_5 w
 by_cases h6:t=6
 ·subst h6;exact form_6 w
 by_cases h12:t=12
 ·subst h12;exact form_12 w
 by_cases h13:t=13
 ·subst h13;exact form_13 w
 by_cases h15:t=15
 ·subst h15;exact form_15 w
 by_cases h16:t=16
 ·subst h16;exact form_16 w
 by_cases h28:t=28
 ·subst h28;exact form_28 w
 by_cases h33:t=33
 ·subst h33;exact form_33 w
 by_cases h35:t=35
 ·subst h35;exact form_35 w
 by_cases h39:t=39
 ·subst h39;exact form_39 w
 by_cases h43:t=43
 ·subst h43;exact form_43 w
 by_cases h46:t=46
 ·subst h46;exact form_46 w
 by_cases h47:t=47
 ·subst h47;exact form_47 w
 by_cases h48:t=48
 ·subst h48;exact form_48 w
 by_cases h50:t=50
 ·subst h50;exact form_50 w
 by_cases h51:t=51
 ·subst h51;exact form_51 w
 by_cases Zj:t=257
 ·subst Zj;exact form_257 w
 have hn:=dt.formF_none h1 h2 h5 h6 h12 h13 h15 h16 h28 h33 h35 h39 h43 h46 h47 h48 h50 h51 Zj;refine(form_no t h1 h2 h5 h6 h12 h13 h15 h16 h28 h33 h35 h39 h43 h46 h47 h48 h50 h51 Zj w).mono fun e w' h=>?_;unfold Qu;rw[hn];exact h
end Go.Proofs.YtpcmilhjpmlbpaaGreatDoor
namespace Go.Proofs.YtpcmilhjpmlbpaaGreatDoor
open Go.RowKit Go.Shelf
namespace nm
def kG (s:ByteArray):Bool:=qo s && Lib.hasPrefix s.data.toList starHead.data.toList
end nm
theorem isStar_any (s:ByteArray)(w:World):Calls Tryz.prog 121 #[.string s] w fun e W'=>e= .returned (.bool (nm.kG s))∧Below w.heap.size w W':=by
 cases hc:nm.qo s
 ·have HC:=qe hc;clear hc
  go_enter Tryz.func121,Tryz.ntmps121
  go_wp2_with (first | (go_at_call 47;refine(zt _ _).mono ?_;rintro e w1 ⟨rfl,hB1⟩;rw[HC.out,Yf]));go_ret;refine⟨?_,hB1⟩;unfold nm.kG;rw[HC.out];rfl
 ·have HC:=qe hc;clear hc
  go_enter Tryz.func121,Tryz.ntmps121
  go_wp2_with (first | (go_at_call 47;refine(zt _ _).mono ?_;rintro e w1 ⟨rfl,hB1⟩;rw[HC.out,vK]) | (go_at_call 156;refine(Tryz.strings_HasPrefix _ _ _).mono ?_;rintro e w2 ⟨rfl,rfl⟩));go_ret;refine⟨?_,hB1⟩;unfold nm.kG;rw[HC.out];rfl
attribute [local go_sem] Oper.semAt_some
namespace nm
def vO (p:List (Nat×ByteArray)):List ByteArray:=(p.map (·.2)).filter (fun l=>!l.toList.isEmpty)
def ja (s:ByteArray):List ByteArray:=if qo s=true then vO (marks s) else []
end nm
theorem labels_no (F:Fence)(n:Nat)(h2:F.fn 170)(h4:F.fn 47)(h6:F.fn 84)(h8:F.fn 135)(hro:F.round=none)(hn:4≤n)(s:ByteArray)(hc:nm.qo s=false)(w:World):
 CallsIn F n Tryz.prog 170 #[.string s] w fun e W'=>e= .returned (.slice none 0 0)∧Below w.heap.size w W':=by
 have h1:1≤n:=by omega
 have HC:=qe hc;clear hc;refine callsIn_of_wp_marks Tryz.func170 rfl h2 ?_ hro;simp only[Tryz.ntmps170,List.size_toArray,List.length_cons,List.length_nil,Nat.reduceAdd,Nat.reduceSub,Array.replicate_succ,Array.replicate_zero,List.push_toArray,List.append_toArray,List.nil_append,List.cons_append];have hB0:=(Below.refl _ w).alloc (Nat.le_refl _) (.cells #[.slice none 0 0] 148)
 gi_wp2_with (gi_at_call 47;refine(Yr F (n-1) h4 h6 h8 hro (by omega) s _).mono ?_;rintro e w1 ⟨rfl,hB1⟩;rw[HC.out,Yf])
 refine⟨.slice none 0 0,?_,rfl,hB0.trans (hB1.mono (by simp))⟩;simp[results,Tryz.f170,go_sem]
theorem VB {W w1:World}{n₀ B b m₀:Nat}{t e:TypeId}{size:Nat}{v v':Value}{k m:Nat}{xs ys:List Value}{tmp:Obj}
 (hv:Boxed W B t v) (hte:t≠e) (hrow:W.ownsRow n₀ e size v k xs) (hn₀:n₀≤W.heap.size) (hb:b<n₀) (hbB:b≠B) (hm:m₀≤n₀) (hmB:m₀≤B)
 (hown':w1.ownsRow n₀ e size v' m ys) (hgrow:(W.alloc tmp).grownBy w1 v.ownBlock):
 Boxed w1 B t v∧Boxed (w1.setCell ⟨B,0,none⟩ v') B t v'∧(w1.setCell ⟨B,0,none⟩ v').ownsRow n₀ e size v' m ys∧KeepsOthers W (w1.setCell ⟨B,0,none⟩ v')∧zf b W (w1.setCell ⟨B,0,none⟩ v')∧Below m₀ W (w1.setCell ⟨B,0,none⟩ v'):=by
 have hv1:Boxed w1 B t v:=(hv.alloc tmp).kept hgrow (hv.not_row hte hrow);have hown:∀j,v.ownBlock=some j→n₀≤j:=by
  intro j ej;rcases hrow.2 with⟨rfl,_⟩|⟨g,cap,cur,rfl,hb,_,_⟩
  ·simp[Value.ownBlock]at ej
  ·obtain rfl:g=j:=by simpa[Value.ownBlock] using ej
   exact hb
 refine⟨hv1,hv1.set v',hown'.kept (grownBy_setCell' w1 B v') (.inr (hv1.not_row hte hown').symm),?_,?_,?_⟩
 ·refine((KeepsOthers.alloc W tmp).trans (KeepsOthers.of_grownBy hgrow fun j o ej hj=>?_)).trans (KeepsOthers.setCell _ _ _);rcases(hrow.alloc tmp).2 with⟨rfl,_⟩|⟨g,cap,cur,rfl,_,hgb,_⟩
  ·simp[Value.ownBlock]at ej
  ·obtain rfl:g=j:=by simpa[Value.ownBlock] using ej
   rw[hgb]at hj;cases hj;rfl
 ·have h1:zf b W (W.alloc tmp):=(zf.refl b W).alloc (by omega) tmp;have h2:zf b (W.alloc tmp) w1:=hgrow.block b (by simp;omega) (fun ej=>by have:=hown b ej.symm;omega);exact zf.setCell (show zf b W w1 from h2.trans h1) hbB v'
 ·refine(((Below.refl m₀ W).alloc (by omega) tmp).grown hgrow (by simp;omega) fun j ej=>?_).setCell (p:=⟨B,0,none⟩) hmB v';have:=hown j ej;omega
theorem Ji:(Tryz.prog.info? 9).map (fun i=>(i.zero,i.size,i.bytes))=some (some (.string ByteArray.empty),1,16):=by kernel_rfl
theorem qG {W:World}{base base':Nat}{e:TypeId}{size:Nat}{v:Value}{m:Nat}{xs:List Value}(h:W.ownsRow base e size v m xs)(hb:base'≤base):W.ownsRow base' e size v m xs:=by
 refine⟨h.1,?_⟩;rcases h.2 with hn | ⟨g,cap,cur,hv,hg,rest⟩
 ·exact .inl hn
 ·exact .inr ⟨g,cap,cur,hv,by omega,rest⟩
theorem labelsL_in (F:Fence)(n:Nat)(h2:F.fn 170)(h4:F.fn 47)(h6:F.fn 84)(h8:F.fn 135)(hro:F.round=none)(hn:4≤n)(s:ByteArray)(hc:nm.qo s=true)(w:World):
 CallsIn F n Tryz.prog 170 #[.string s] w fun e W'=>(∃v,e= .returned v∧W'.ownsRow w.heap.size 9 1 v (nm.ja s).length ((nm.ja s).map .string))∧Below w.heap.size w W':=by
 have h1:1≤n:=by omega
 have hs:=qU hc;have hml:=nm.vY s;have HC:=qe hc;clear hc;refine callsIn_of_wp_marks Tryz.func170 rfl h2 ?_ hro;simp only[Tryz.ntmps170,List.size_toArray,List.length_cons,List.length_nil,Nat.reduceAdd,Nat.reduceSub,Array.replicate_succ,Array.replicate_zero,List.push_toArray,List.append_toArray,List.nil_append,List.cons_append];have hB0:=(Below.refl _ w).alloc (Nat.le_refl _) (.cells #[.slice none 0 0] 148);have D1:=qe (Boxed.new w 148 (.slice none 0 0))
 gi_wp2_with (first
  | (gi_at_call 47;refine(Yr F (n-1) h4 h6 h8 hro (by omega) s _).mono ?_;rintro e w1 ⟨rfl,hB1⟩;rw[HC.out,vK])
  | (gi_at_call 84;refine(JU F (n-1) h6 hro _ _).mono ?_;rintro e w' ⟨rfl,rfl⟩))
 have c2:=zw w1 (.string s) 9;have hsz:=hB1.size;simp only[World.size_alloc]at hsz;have hb1:Boxed (w1.alloc (.cells #[.string s] 9)) w.heap.size 148 (.slice none 0 0):=Boxed.alloc ((hB1.block _ (by simp)).trans D1.out) _;have hBW:Below w.heap.size w (w1.alloc (.cells #[.string s] 9)):=(hB0.trans (hB1.mono (by simp))).alloc (by omega) _;refine wpIn_rangeFunc_ownF hro h1 (gf:=135) (lb:=#[.pointer (some ⟨w1.heap.size,0,none⟩)]) rfl h8 (enters_of Tryz.func135 (by kernel_rfl) rfl)
  (Ki F (n-1) h8 hro (by omega) w1.heap.size s (by omega) _ (by simp) c2.1) uA (uB (by simp)) (Below.refl _ _) (fun _=>rfl)
  (fun pre W=>(∃v,Boxed W w.heap.size 148 v∧W.ownsRow (w1.heap.size+1) 9 1 v (nm.vO (pre.map (·.1))).length ((nm.vO (pre.map (·.1))).map .string)∧True)∧(w1.heap.size+1≤W.heap.size∧Below w.heap.size w W))
  (fun _ _ _=>False)
  (OwnFrom.and (Own.from (holdsRow_own (w1.heap.size+1) w.heap.size 148 9 1 (fun pre:List { p:Nat×ByteArray // p∈nm.marks s}=>(nm.vO (pre.map (·.1))).length) (fun pre=>(nm.vO (pre.map (·.1))).map .string) (fun _ _=>True)) _) (OwnFrom.and (fun s A B row hs hg hr=>Nat.le_trans hs hg.size) (ownFrom_below (by omega) (by simp;omega))))
  (fun _ _ _ _ _ h _ _=>h)
  ⟨⟨_,hb1,World.ownsRow_nil _ _ _ _,trivial⟩,by simp,hBW⟩
  (fun x=>{ tmps:=#[.string s,undef,.slice none 0 0,.pointer (some ⟨w.heap.size,0,none⟩),undef,.string x.1.2,.string s,.int .i64 0,.bool false,.string s,
   .func (.func 135) #[] #[.pointer (some ⟨w1.heap.size,0,none⟩)],.int .i64 (x.1.1:Int),.string x.1.2,undef,undef,undef,undef,undef,undef,undef],defers:=[]}) ?assign ?body ?done ?stop
 case assign=>
  intro l x W K hK
  dsimp only[markV]
  gi_wp2
  exact hK
 case body=>
  rintro l pre x W ⟨⟨v,hv,hrow,_⟩,hws,hB⟩ hlen;have hx:=hv.cell;have hfz:=hv.frozen;have HB:=qe hB;have HR:=qe hrow;have HV:=qe hv;have HL:=qe hlen;clear hB hrow hv hlen
  cases he:x.1.2.toList.isEmpty
  ·have hkl:nm.vO ((pre ++ [x]).map (·.1))=nm.vO (pre.map (·.1)) ++ [x.1.2]:=by
    unfold nm.vO;rw[List.map_append,List.map_append,List.filter_append]
    congr 1
    simp[he]
   have HKL:=qe hkl;clear hkl;obtain⟨i0,hi,hz0,hz1,hz2⟩:=info_parts Ji;have hkn:(nm.vO (pre.map (·.1))).length≤pre.length:=by
    unfold nm.vO;refine Nat.le_trans (List.length_filter_le _ _) (by simp)
   have q1:(nm.vO (pre.map (·.1))).length+1≤maxLen:=by have:=HL.out;simp only[maxLen];omega
   have q2:((nm.vO (pre.map (·.1))).length+1)*16≤140737488355328:=by have:=HL.out;omega
   have Q1:=qe q1;have Q2:=qe q2;have HI:=qe hi;have HZ:=qe hz0;have HZ1:=qe hz1;have HZ2:=qe hz2;clear hkn q1 q2 hi hz0 hz1 hz2
   gi_wp2_with (gi_at_builtin;refine wpListIn_append_own _ rfl _ _ 148 rfl (w1.heap.size+1) 9 i0 (.string ByteArray.empty) 1 16 Tryz.underlying148 HI.out HZ.out HZ1.out HZ2.out rfl (by decide) _ _ _ rfl (HR.out.alloc _) ⟨W.heap.size,0,none⟩ 1 1 [.string x.1.2] rfl rfl (cell_one_new _ _ _) (by simp[Value.oneCell']) Q1.out Q2.out (by simp;omega) ?_;intro v' w2 hown' hgrow _;obtain⟨g',cap',rfl⟩:=ownsRow_succ hown';obtain⟨hv1,hv2,hr2,hk2,hkb,hb2⟩:=VB (b:=w1.heap.size) (m₀:=w.heap.size) HV.out (by decide) HR.out (by omega) (by omega) (by omega) (by omega) (by omega) hown' hgrow;have hc1:=hv1.cell;have hf1:=hv1.frozen;have HV2:=qe hv2;have HR2:=qe hr2;have HK2:=qe hk2;have HKB:=qe hkb;have HB2:=qe hb2;clear hown' hgrow hv1 hv2 hr2 hk2 hkb hb2)
   refine⟨HK2.out,HKB.out,⟨_,HV2.out,?_⟩,Nat.le_trans hws HB2.out.size,HB.out.trans HB2.out⟩;have hr:=HR2.out;rw[HKL.out];simp;exact hr
  ·have hkl:nm.vO ((pre ++ [x]).map (·.1))=nm.vO (pre.map (·.1)):=by
    unfold nm.vO;rw[List.map_append,List.map_append,List.filter_append];simp[he]
   have HKL:=qe hkl;clear hkl
   gi_wp2
   refine⟨KeepsOthers.refl _,zf.refl _ _,⟨_,HV.out,?_⟩,hws,HB.out⟩;rw[HKL.out];exact HR.out
 case done=>
  rintro D ys W hD hys ⟨⟨v,hv,hrow,_⟩,hws,hB⟩ hK;have hx:=hv.cell;have HYS:=qe hys;clear hys
  gi_wp2
  refine⟨by simp,.inl ⟨_,_,rfl,run_takeDeferred hK,?_⟩⟩;refine⟨_,results_tmp rfl _ _ _,⟨v,rfl,?_⟩,hB.trans (belowK_b (w:=w) (Nat.le_refl _) W D _ _ (by simp at hD;omega) hK rfl rfl)⟩;have hll:nm.ja s=nm.vO (ys.map (·.1)):=by
   unfold nm.ja;rw[if_pos HC.out,HYS.out]
  rw[hll];exact ownsRow_putObj (qG hrow (by omega)) _ hK rfl
 case stop=>
  rintro D cd pre W hD hpre h hK;exact h.elim
theorem vM (s:ByteArray)(w:World):Calls Tryz.prog 170 #[.string s] w fun e W'=>(∃v,e= .returned v∧W'.ownsRow w.heap.size 9 1 v (nm.ja s).length ((nm.ja s).map .string))∧Below w.heap.size w W':=by
 refine(callsIn_wide (n:=4)).1 ?_
 cases hc:nm.qo s
 ·refine(labels_no Fence.wide 4 trivial trivial trivial trivial rfl (Nat.le_refl _) s hc w).mono ?_;rintro e w' ⟨rfl,hB⟩;have hl:nm.ja s= []:=by unfold nm.ja;rw[if_neg (by rw[hc];simp)]
  rw[hl];exact⟨⟨_,rfl,World.ownsRow_nil _ _ _ _⟩,hB⟩
 ·exact labelsL_in Fence.wide 4 trivial trivial trivial trivial rfl (Nat.le_refl _) s hc w
end Go.Proofs.YtpcmilhjpmlbpaaGreatDoor
namespace Go.Proofs.YtpcmilhjpmlbpaaGreatDoor
open Go.RowKit Go.Shelf
namespace nm
def yB:List ByteArray→List ByteArray→Int
 | [],[]=>0
 | [],_ :: _=>-1
 | _ :: _,[]=>1
 | a :: x,b :: y=>if Lib.compareBytes a.data.toList b.data.toList=0 then yB x y else Lib.compareBytes a.data.toList b.data.toList
def zk (a b:ByteArray):Int:=if qo a=true∧qo b=true then yB (ja (kW a)).reverse (ja (kW b)).reverse else 0
theorem Ya {X:List ByteArray}{k:Nat}(h1:1≤k)(h2:k≤X.length):X.reverse.drop (k-1)=X[X.length-k]'(by omega) :: X.reverse.drop k:=by
 obtain⟨k,rfl⟩:∃j,k=j+1:=⟨k-1,by omega⟩;rw[Nat.add_sub_cancel,List.drop_eq_getElem_cons (by simp;omega)]
 congr 1
 rw[List.getElem_reverse]
 congr 1
 omega
theorem cmp_next {X Y:List ByteArray}{k:Nat}(h1:1≤k)(hx:k≤X.length)(hy:k≤Y.length)(h:Lib.compareBytes (X[X.length-k]'(by omega)).data.toList (Y[Y.length-k]'(by omega)).data.toList=0):
 yB (X.reverse.drop (k-1)) (Y.reverse.drop (k-1))=yB (X.reverse.drop k) (Y.reverse.drop k):=by
 rw[Ya h1 hx,Ya h1 hy,yB,if_pos h]
theorem cmp_stop {X Y:List ByteArray}{k:Nat}(h1:1≤k)(hx:k≤X.length)(hy:k≤Y.length)(h:Lib.compareBytes (X[X.length-k]'(by omega)).data.toList (Y[Y.length-k]'(by omega)).data.toList≠0):
 yB (X.reverse.drop (k-1)) (Y.reverse.drop (k-1))=Lib.compareBytes (X[X.length-k]'(by omega)).data.toList (Y[Y.length-k]'(by omega)).data.toList:=by
 rw[Ya h1 hx,Ya h1 hy,yB,if_neg h]
theorem cmp_end {X Y:List ByteArray}{k:Nat}(h1:1≤k)(hx:k≤X.length+1)(hy:k≤Y.length+1)(h:X.length<k∨Y.length<k):
 yB (X.reverse.drop (k-1)) (Y.reverse.drop (k-1))=if X.length<Y.length then -1 else if Y.length<X.length then 1 else 0:=by
 by_cases a:X.length<Y.length
 ·have hx0:X.reverse.drop (k-1)= []:=List.drop_eq_nil_of_le (by simp;omega);rw[if_pos a,hx0,Ya h1 (by omega),yB]
 ·rw[if_neg a];by_cases b:Y.length<X.length
  ·have hy0:Y.reverse.drop (k-1)= []:=List.drop_eq_nil_of_le (by simp;omega);rw[if_pos b,hy0,Ya h1 (by omega),yB]
  ·have hx0:X.reverse.drop (k-1)= []:=List.drop_eq_nil_of_le (by simp;omega);have hy0:Y.reverse.drop (k-1)= []:=List.drop_eq_nil_of_le (by simp;omega);rw[if_neg b,hx0,hy0,yB]
theorem cmp_range (a b:ByteArray):-1≤Lib.compareBytes a.data.toList b.data.toList∧Lib.compareBytes a.data.toList b.data.toList≤1:=by
 have h:∀x y:List UInt8,-1≤Lib.compareBytes x y∧Lib.compareBytes x y≤1:=by
  intro x
  induction x with
  | nil=>intro y;cases y <;> simp[Lib.compareBytes]
  | cons c x ih=>
    intro y
    cases y with
    | nil=>simp[Lib.compareBytes]
    | cons d y=>
      rw[Lib.compareBytes]
      split
      ·omega
      ·split
       ·omega
       ·exact ih y
 exact h _ _
theorem V3 (s:ByteArray):(ja s).length≤s.size:=by
 unfold ja
 split
 ·unfold vO;refine Nat.le_trans (List.length_filter_le _ _) ?_;rw[List.length_map];exact vY s
 ·exact Nat.zero_le _
theorem Vo (s:ByteArray):(kW s).size=s.size:=by
 show(kW s).data.size=s.data.size;unfold kW;simp
end nm
theorem Jt {B:Nat}{a w:World}(h:Below B a w)(n:Nat):Below B a (w.drewN n):=⟨h.os,h.tape,h.output,h.size,h.block⟩
theorem Uk {W W':World}{base:Nat}{e:TypeId}{v:Value}{xs:List ByteArray}(h:W.ownsRow base e 1 v xs.length (xs.map .string))(hk:∀g,g<W.heap.size→W'.heap[g]? =W.heap[g]?):
 ∃a cap,v= .slice a xs.length cap∧xs.length≤cap∧∀j (hj:j<xs.length),∃g,a=some ⟨g,0,none⟩∧W'.cell? ⟨g,j,none⟩=some (.string xs[j]):=by
 rcases h.2 with⟨rfl,h0⟩|⟨g,cap,cur,rfl,_,hg,hnc,_,_,hx⟩
 ·exact⟨none,0,by rw[h0],by omega,fun j hj=>by omega⟩
 ·refine⟨_,cap,rfl,hnc,fun j hj=>⟨g,rfl,?_⟩⟩;have hg':=(hk g (qA hg)).trans hg;rw[qh hg'];have h2:(xs.map Value.string)[j]? =some (.string xs[j]):=by rw[List.getElem?_map,List.getElem?_eq_getElem hj];rfl
  rw[← h2,← hx,List.getElem?_take]
  split
  ·simp
  ·omega
theorem xY {W:World}{base:Nat}{e:TypeId}{g n cap:Nat}{xs:List Value}(h:W.ownsRow base e 1 (.slice (some ⟨g,0,none⟩) n cap) n xs):∀j (hj:j<xs.length),W.cell? ⟨g,j,none⟩=some xs[j]:=by
 intro j hj;rcases h.2 with⟨h0,_⟩|⟨g',cap',cur,he,_,hg,hnc,_,_,hx⟩
 ·cases h0
 ·simp only[Value.slice.injEq,Option.some.injEq,Addr.mk.injEq,and_true,true_and]at he;obtain⟨rfl,rfl⟩:=he;rw[qh hg];have h2:xs[j]? =some xs[j]:=List.getElem?_eq_getElem hj;rw[← h2,← hx,List.getElem?_take]
  split
  ·simp
  ·have:=h.1;omega
theorem compare_no (a b:ByteArray)(ha:a.size≤140737488355328)(hb:b.size≤140737488355328)(h:¬(nm.qo a=true∧nm.qo b=true))(w:World):Calls Tryz.prog 128 #[.string a,.string b] w fun e W'=>e= .returned (.int .i64 (nm.zk a b))∧Below w.heap.size w W':=by
 have hr:nm.zk a b=0:=by unfold nm.zk;rw[if_neg h]
 have HR:=qe hr;clear hr
 cases ca:nm.qo a
 ·have CA:=qe ca;clear ca h
  go_enter Tryz.func128,Tryz.ntmps128
  go_wp2_with fail;refine(vL a ha _).mono ?_;rintro e w1 ⟨rfl,hB1⟩;go_wp2_with fail;refine(vM _ _).mono ?_;rintro e w2 ⟨⟨v1,rfl,hR1⟩,hB2⟩;go_wp2_with fail;refine(vL b hb _).mono ?_;rintro e w3 ⟨rfl,hB3⟩;go_wp2_with fail;refine(vM _ _).mono ?_;rintro e w4 ⟨⟨v2,rfl,hR2⟩,hB4⟩;go_wp2_with (go_at_call 47;refine(zt _ _).mono ?_;rintro e w5 ⟨rfl,hB5⟩;rw[CA.out,Yf]);go_ret;have z1:=hB1.size;have z2:=hB2.size;have z3:=hB3.size;have z4:=hB4.size;exact⟨qQ HR.out.symm,(((hB1.trans (hB2.mono z1)).trans (hB3.mono (by omega))).trans (hB4.mono (by omega))).trans (hB5.mono (by omega))⟩
 ·cases cb:nm.qo b
  ·have CA:=qe ca;have CB:=qe cb;clear ca cb h
   go_enter Tryz.func128,Tryz.ntmps128
   go_wp2_with fail;refine(vL a ha _).mono ?_;rintro e w1 ⟨rfl,hB1⟩;go_wp2_with fail;refine(vM _ _).mono ?_;rintro e w2 ⟨⟨v1,rfl,hR1⟩,hB2⟩;go_wp2_with fail;refine(vL b hb _).mono ?_;rintro e w3 ⟨rfl,hB3⟩;go_wp2_with fail;refine(vM _ _).mono ?_;rintro e w4 ⟨⟨v2,rfl,hR2⟩,hB4⟩;go_wp2_with fail;refine(zt _ _).mono ?_;rintro e w5 ⟨rfl,hB5⟩;rw[CA.out,vK];go_wp2_with fail;refine(zt _ _).mono ?_;rintro e w6 ⟨rfl,hB6⟩;rw[CB.out,Yf];go_wp2_with fail;go_ret;have z1:=hB1.size;have z2:=hB2.size;have z3:=hB3.size;have z4:=hB4.size;have z5:=hB5.size;exact⟨qQ HR.out.symm,((((hB1.trans (hB2.mono z1)).trans (hB3.mono (by omega))).trans (hB4.mono (by omega))).trans (hB5.mono (by omega))).trans (hB6.mono (by omega))⟩
  ·exact absurd ⟨ca,cb⟩ h
theorem compare_yes (a b:ByteArray)(ha:nm.qo a=true)(hb:nm.qo b=true)(w:World):Calls Tryz.prog 128 #[.string a,.string b] w fun e W'=>e= .returned (.int .i64 (nm.zk a b))∧Below w.heap.size w W':=by
 have hr:nm.zk a b=nm.yB (nm.ja (nm.kW a)).reverse (nm.ja (nm.kW b)).reverse:=by unfold nm.zk;rw[if_pos ⟨ha,hb⟩]
 have sa:=qU ha;have sb:=qU hb;have CA:=qe ha;have CB:=qe hb;clear ha hb;have hlx:=nm.V3 (nm.kW a);have hly:=nm.V3 (nm.kW b);rw[nm.Vo]at hlx hly
 go_enter Tryz.func128,Tryz.ntmps128
 obtain⟨X,hX⟩:∃X,X=nm.ja (nm.kW a):=⟨_,rfl⟩;obtain⟨Y,hY⟩:∃Y,Y=nm.ja (nm.kW b):=⟨_,rfl⟩;rw[← hX,← hY]at hr;rw[← hX]at hlx;rw[← hY]at hly;have HR:=qe hr;have HX:=qe hX;have HY:=qe hY;clear hr hX hY;go_wp2_with fail;refine(vL a (by omega) _).mono ?_;rintro e w1 ⟨rfl,hB1⟩;go_wp2_with fail;refine(vM _ _).mono ?_;rintro e w2 ⟨⟨v1,rfl,hR1⟩,hB2⟩;rw[← HX.out]at hR1;have HR1:=qe hR1;clear hR1;go_wp2_with fail;refine(vL b (by omega) _).mono ?_;rintro e w3 ⟨rfl,hB3⟩;go_wp2_with fail;refine(vM _ _).mono ?_;rintro e w4 ⟨⟨v2,rfl,hR2⟩,hB4⟩;rw[← HY.out]at hR2;have HR2:=qe hR2;clear hR2;go_wp2_with fail;refine(zt _ _).mono ?_;rintro e w5 ⟨rfl,hB5⟩;rw[CA.out,vK];go_wp2_with fail;refine(zt _ _).mono ?_;rintro e w6 ⟨rfl,hB6⟩;rw[CB.out,vK];have z1:=hB1.size;have z2:=hB2.size;have z3:=hB3.size;have z4:=hB4.size;have z5:=hB5.size;have hB:=qe (((((hB1.trans (hB2.mono z1)).trans (hB3.mono (by omega))).trans (hB4.mono (by omega))).trans (hB5.mono (by omega))).trans (hB6.mono (by omega)));have k1:∀g,g<w2.heap.size→w6.heap[g]? =w2.heap[g]?:=fun g hg=>(hB6.block g (by omega)).trans ((hB5.block g (by omega)).trans ((hB4.block g (by omega)).trans (hB3.block g hg)));have k2:∀g,g<w4.heap.size→w6.heap[g]? =w4.heap[g]?:=fun g hg=>(hB6.block g (by omega)).trans (hB5.block g hg);have K1:=qe k1;have K2:=qe k2;clear k1 k2;obtain⟨ax,cx,hv1,hcx,fx⟩:=Uk HR1.out K1.out;obtain⟨ay,cy,hv2,hcy,fy⟩:=Uk HR2.out K2.out;subst hv1 hv2;have FX:=qe fx;have FY:=qe fy;clear fx fy;go_wp2_with fail
 go_loopw [7,4,8] (fun kv _ _ wr=>∃k:Nat,1≤k∧k≤X.length+1∧k≤Y.length+1∧kv= .int .i64 k∧nm.zk a b=nm.yB (X.reverse.drop (k-1)) (Y.reverse.drop (k-1))∧wr.heap=w6.heap∧Below w.heap.size w wr) (fun kv _ _ _=>X.length+2-(intOf kv).toNat)
 case atStart=>exact⟨1,by omega,by omega,by omega,rfl,HR.out,rfl,hB.out⟩
 case round=>
  obtain⟨k,hk1,hkx,hky,rfl,he,hh,hb⟩:=hrel;have HE:=qe he;have HH:=qe hh;have HB:=qe hb;clear he hh hb;by_cases hlt:k≤X.length∧k≤Y.length
  ·obtain⟨hlx',hly'⟩:=hlt;obtain⟨gx,rfl,cx1⟩:=FX.out (X.length-k) (by omega);obtain⟨gy,rfl,cy1⟩:=FY.out (Y.length-k) (by omega);rw[← World.cell?_of_block (w:=w6) (a:=⟨gx,X.length-k,none⟩) (by rw[HH.out])]at cx1;rw[← World.cell?_of_block (w:=w6) (a:=⟨gy,Y.length-k,none⟩) (by rw[HH.out])]at cy1;have e1:IntKind.i64.wrap ((X.length:Int)-k)=(X.length:Int)-k:=IntWalk.i64_in _ (by omega);have e2:(0:Int)≤(X.length:Int)-k:=by omega
   have e3:((X.length:Int)-k).toNat=X.length-k:=by omega
   have e4:IntKind.i64.wrap ((Y.length:Int)-k)=(Y.length:Int)-k:=IntWalk.i64_in _ (by omega);have e5:(0:Int)≤(Y.length:Int)-k:=by omega
   have e6:((Y.length:Int)-k).toNat=Y.length-k:=by omega
   have e7:(X.length:Int)-k<X.length:=by omega
   have e8:(Y.length:Int)-k<Y.length:=by omega
   have px:X.length-k<X.length:=by omega
   have py:Y.length-k<Y.length:=by omega
   have hcr:=nm.cmp_range (X[X.length-k]'px) (Y[Y.length-k]'py);have HCR:=qe hcr;clear hcr;by_cases hc0:Lib.compareBytes (X[X.length-k]'px).data.toList (Y[Y.length-k]'py).data.toList=0
   ·have hnx:nm.zk a b=nm.yB (X.reverse.drop k) (Y.reverse.drop k):=by rw[HE.out,nm.cmp_next hk1 hlx' hly' hc0]
    have b1:(Lib.compareBytes (X[X.length-k]'px).data.toList (Y[Y.length-k]'py).data.toList != 0)=false:=by rw[hc0];rfl
    have HN:=qe hnx;clear hnx hc0;go_wp2_with fail
    go_quiet ((go_at_call 130;exact Calls.quiet_of_same (Tryz.strings_Compare _ _ _)))
    go_wp2_with fail
    go_roundw
    case rel=>exact⟨k+1,by omega,by omega,by omega,by go_num,by rw[Nat.add_sub_cancel];exact HN.out,HH.out,Jt HB.out _⟩
    case measure=>simp[intOf];omega
   ·have hnx:nm.zk a b=Lib.compareBytes (X[X.length-k]'px).data.toList (Y[Y.length-k]'py).data.toList:=by rw[HE.out,nm.cmp_stop hk1 hlx' hly' hc0]
    have b1:(Lib.compareBytes (X[X.length-k]'px).data.toList (Y[Y.length-k]'py).data.toList != 0)=true:=by rw[bne_iff_ne];exact hc0
    have HN:=qe hnx;clear hnx hc0;go_wp2_with fail
    go_quiet ((go_at_call 130;exact Calls.quiet_of_same (Tryz.strings_Compare _ _ _)))
    go_wp2_with fail;go_ret;exact⟨qQ HN.out.symm,Jt HB.out _⟩
  ·have hen:nm.zk a b=if X.length<Y.length then -1 else if Y.length<X.length then 1 else 0:=by rw[HE.out,nm.cmp_end hk1 hkx hky (by omega)]
   by_cases h1:X.length<Y.length
   ·rw[if_pos h1]at hen;have HN:=qe hen;clear hen;by_cases hx1:k≤X.length
    ·have:¬k≤Y.length:=by omega
     go_wp2_with fail;go_ret;exact⟨qQ HN.out.symm,HB.out⟩
    ·go_wp2_with fail;go_ret;exact⟨qQ HN.out.symm,HB.out⟩
   ·rw[if_neg h1]at hen;by_cases h2:Y.length<X.length
    ·rw[if_pos h2]at hen;have HN:=qe hen;clear hen;by_cases hx1:k≤X.length
     ·have:¬k≤Y.length:=by omega
      go_wp2_with fail;go_ret;exact⟨qQ HN.out.symm,HB.out⟩
     ·go_wp2_with fail;go_ret;exact⟨qQ HN.out.symm,HB.out⟩
    ·rw[if_neg h2]at hen;have HN:=qe hen;clear hen;by_cases hx1:k≤X.length
     ·have:¬k≤Y.length:=by omega
      go_wp2_with fail;go_ret;exact⟨qQ HN.out.symm,HB.out⟩
     ·go_wp2_with fail;go_ret;exact⟨qQ HN.out.symm,HB.out⟩
theorem compare_any (a b:ByteArray)(ha:a.size≤140737488355328)(hb:b.size≤140737488355328)(w:World):Calls Tryz.prog 128 #[.string a,.string b] w fun e W'=>e= .returned (.int .i64 (nm.zk a b))∧Below w.heap.size w W':=by
 by_cases h:nm.qo a=true∧nm.qo b=true
 ·exact compare_yes a b h.1 h.2 w
 ·exact compare_no a b ha hb h w
end Go.Proofs.YtpcmilhjpmlbpaaGreatDoor
namespace Go.Proofs.YtpcmilhjpmlbpaaGreatDoor.nm
def nameOf (ls:List (List UInt8)):ByteArray:=⟨(zY ls).toArray⟩
def jG (ls:List (List UInt8)):List (List UInt8):=ls.map (·.map ZM)
theorem rows_nameOf {s:ByteArray}{ls:List (List UInt8)}(h:rows s=some ls):s=nameOf ls:=YI (yf h).2.2.1
theorem XE {ls:List (List UInt8)}(ho:Zf ls)(hl:(zY ls).length≤255):rows (nameOf ls)=some ls:=rows_put ho hl
theorem Z9 {s:ByteArray}{ls:List (List UInt8)}(h:rows s=some ls):(zY ls).length=s.size:=by
 rw[← (yf h).2.2.1];exact Array.length_toList
theorem rowOk_drop {ls:List (List UInt8)}(h:Zf ls)(j:Nat):Zf (ls.drop j):=fun l hl=>h l (List.mem_of_mem_drop hl)
theorem lowB_small {c:UInt8}(h:c.toNat<65):ZM c=c:=Uv (by omega)
theorem putL_low:∀(ls:List (List UInt8)),Zf ls→(zY ls).map ZM=zY (jG ls):=by
 intro ls
 induction ls with
 | nil=>intro _;rfl
 | cons l ls ih=>
   intro h;obtain⟨h0,h1⟩:=h l (by simp);rw[zY,List.map_cons,List.map_append,ih (fun x hx=>h x (by simp[hx]))];show _=zY (l.map ZM :: jG ls);rw[zY,List.length_map,lowB_small];rw[UInt8.toNat_ofNat'];omega
theorem QQ {ls:List (List UInt8)}(h:Zf ls):Zf (jG ls):=fun l hl=>by
 obtain⟨x,hx,rfl⟩:=List.mem_map.1 hl
 simpa using h x hx
theorem QH {ls:List (List UInt8)}(h:Zf ls):(zY (jG ls)).length=(zY ls).length:=by rw[← putL_low ls h,List.length_map]
theorem Jh {s:ByteArray}{ls:List (List UInt8)}(h:rows s=some ls):kW s=nameOf (jG ls):=by
 obtain⟨_,h2,h3,_⟩:=yf h;apply YI;show s.data.toList.map ZM=zY (jG ls);rw[h3,putL_low ls h2]
theorem Uh {s:ByteArray}{ls:List (List UInt8)}(h:rows s=some ls):rows (kW s)=some (jG ls):=by
 obtain⟨h1,h2,h3,_⟩:=yf h;rw[Jh h];exact XE (QQ h2) (by rw[QH h2,Z9 h];exact h1)
theorem vQ {s:ByteArray}{ls:List (List UInt8)}(h:rows s=some ls):qx s=nameOf (jG ls):=by
 unfold qx;rw[jr,h,if_pos (show(some ls).isSome=true from rfl),Jh h]
theorem vH {s:ByteArray}{ls:List (List UInt8)}(h:rows s=some ls):rows (qx s)=some (jG ls):=by
 rw[vQ h,← Jh h,Uh h]
theorem yN {s:ByteArray}(h:qo s=true):∃ls,rows s=some ls:=by
 rw[jr]at h;exact Option.isSome_iff_exists.1 h
theorem Qq {s:ByteArray}{ls:List (List UInt8)}(h:rows s=some ls):qo s=true:=by rw[jr,h];rfl
theorem Qo {s:ByteArray}{ls:List (List UInt8)}(h:rows s=some ls):qK s=ls.length:=by rw[Qp,h]
theorem nameOf_inj {a b:List (List UInt8)}(ha:Zf a)(hb:Zf b)(hl:(zY a).length≤255)(h:nameOf a=nameOf b):a=b:=by
 have h1:zY a=zY b:=by
  have:=congrArg (fun s:ByteArray=>s.data.toList) h
  simpa[nameOf] using this
 have h2:=XE ha hl;rw[h,XE hb (by rw[← h1];exact hl)]at h2;exact(Option.some.inj h2).symm
theorem uo {s:ByteArray}{ls:List (List UInt8)}(h:rows s=some ls){k:Int}(h0:0≤k)(h1:k≤ls.length):
 zQ s k=nameOf (ls.drop (ls.length-k.toNat))∧rows (zQ s k)=some (ls.drop (ls.length-k.toNat)):=by
 obtain⟨a1,a2,a3,_⟩:=yf h;have e:zQ s k=nameOf (ls.drop (ls.length-k.toNat)):=by rw[Kv,h];simp only;rw[if_pos ⟨h0,h1⟩];rfl
 refine⟨e,?_⟩;rw[e];refine XE (rowOk_drop a2 _) ?_;have:=(putL_drop ls (ls.length-k.toNat) (by omega)).2;have:=Z9 h;omega
theorem JG {s:ByteArray}{ls:List (List UInt8)}(h:rows s=some ls):zQ s ls.length=s:=by
 rw[(uo h (by omega) (by omega)).1,rows_nameOf h];simp
theorem count_tail {s:ByteArray}{ls:List (List UInt8)}(h:rows s=some ls){k:Int}(h0:0≤k)(h1:k≤ls.length):qK (zQ s k)=k:=by
 rw[Qo (uo h h0 h1).2,List.length_drop];omega
theorem VU {s:ByteArray}{ls:List (List UInt8)}(h:rows s=some ls){k:Int}(h0:1≤k)(h1:k≤ls.length):Un (zQ s k)=zQ s (k-1):=by
 unfold Un;have h2:=(uo h (by omega:0≤k) h1).2;rw[count_tail h (by omega) h1];have hl:(ls.drop (ls.length-k.toNat)).length=k.toNat:=by rw[List.length_drop];omega
 rw[(uo h2 (by omega) (by rw[hl];omega)).1,(uo h (by omega) (by omega)).1,List.drop_drop,hl]
 congr 2
 omega
theorem KP {a b:ByteArray}{x y:List (List UInt8)}(ha:rows a=some x)(hb:rows b=some y):qF a b=decide (jG x=jG y):=by
 unfold qF;rw[Qq ha,Qq hb,Bool.true_and,Bool.true_and,Jh ha,Jh hb];obtain⟨a1,a2,_,_⟩:=yf ha;obtain⟨b1,b2,_,_⟩:=yf hb;by_cases h:jG x=jG y
 ·rw[h,decide_eq_true rfl];exact str_eq.2 rfl
 ·rw[decide_eq_false h];refine str_ne (fun e=>h (nameOf_inj (QQ a2) (QQ b2) (by rw[QH a2,Z9 ha];exact a1) e))
theorem Xa {a b:ByteArray}(h:qF a b=true):qo a=true∧qo b=true:=by
 unfold qF at h;simp only[Bool.and_eq_true]at h;exact⟨h.1.1,h.1.2⟩
theorem lowR_drop (ls:List (List UInt8))(j:Nat):jG (ls.drop j)=(jG ls).drop j:=by unfold jG;rw[List.map_drop]
theorem Zm {a z:ByteArray}{x y:List (List UInt8)}(ha:rows a=some x)(hz:rows z=some y):zB a z=true↔y.length≤x.length∧(jG x).drop (x.length-y.length)=jG y:=by
 unfold zB;rw[Qo hz,decide_eq_true (by omega),Bool.true_and];by_cases hl:y.length≤x.length
 ·have h2:=(uo ha (k:=y.length) (by omega) (by omega)).2;rw[KP h2 hz,decide_eq_true_eq,lowR_drop];simp[hl]
 ·have hn:zQ a (y.length:Int)=ByteArray.empty:=by
   rw[Kv,ha];simp only;rw[if_neg (by omega)]
  rw[hn];have:qF ByteArray.empty z=false:=rfl;rw[this];simp;omega
theorem fold_size (s:ByteArray):(qx s).size≤255:=by
 unfold qx
 split
 ·rename_i h
  have:(kW s).size=s.size:=Vo s;rw[this];exact qU h
 ·decide
end Go.Proofs.YtpcmilhjpmlbpaaGreatDoor.nm
