import Derived.Test.YtpcmilhjpmlbpaaGreatDoorQNameIt
import Derived.Test.YtpcmilhjpmlbpaaGreatDoorQNameA
import Derived.Test.YtpcmilhjpmlbpaaGreatDoorQShelf
import Derived.Deep.QuietTactic
import Derived.BigQuiet
import Derived.Lib.Bytealg
import Derived.Lib.Strings
set_option maxRecDepth 100000
set_option maxHeartbeats 2000000
namespace Go.Proofs.YtpcmilhjpmlbpaaGreatDoor
open Go.RowKit Go.Shelf nm
theorem qL {a b:Int}(h:a=b):Ending.returned (.int .i64 a)= .returned (.int .i64 b):=by rw[h]
theorem Yt (n:Int)(d:ByteArray)(w:World):Calls Tryz.prog 228 #[.int .i64 n,.string d] w fun e W'=>e= .returned (.int .i64 (dt.vU n d))∧w=W':=by
 by_cases h:(d.size:Int)<n
 ·go_enter Tryz.func228,Tryz.ntmps228
  go_wp2
  go_ret
  exact⟨qL (by rw[dt.vU,if_pos h]),rfl⟩
 ·go_enter Tryz.func228,Tryz.ntmps228
  go_wp2
  go_ret
  exact⟨qL (by rw[dt.vU,if_neg (by omega)]),rfl⟩
theorem ip4_take (d:ByteArray)(w:World):Calls Tryz.prog 231 #[.agg #[],.string d] w fun e W'=>e= .returned (.int .i64 (dt.vU 4 d))∧Below w.heap.size w W':=by
 have hB:=(Below.refl _ w).alloc (Nat.le_refl _) (.cells #[] 239)
 go_enter Tryz.func231,Tryz.ntmps231
 go_wp2_with (go_at_call 228;refine(Yt _ _ _).mono ?_;rintro e w1 ⟨rfl,rfl⟩)
 go_ret
 exact⟨rfl,hB⟩
theorem ip6_take (d:ByteArray)(w:World):Calls Tryz.prog 240 #[.agg #[],.string d] w fun e W'=>e= .returned (.int .i64 (dt.vU 16 d))∧Below w.heap.size w W':=by
 have hB:=(Below.refl _ w).alloc (Nat.le_refl _) (.cells #[] 242)
 go_enter Tryz.func240,Tryz.ntmps240
 go_wp2_with (go_at_call 228;refine(Yt _ _ _).mono ?_;rintro e w1 ⟨rfl,rfl⟩)
 go_ret
 exact⟨rfl,hB⟩
theorem some_any (d:ByteArray)(w:World):Calls Tryz.prog 244 #[.string d] w fun e W'=>e= .returned (.int .i64 (dt.xn d))∧w=W':=by
 by_cases h:d.size=0
 ·have b0:=yP h
  have H:=Lib.hid h
  clear h
  go_enter Tryz.func244,Tryz.ntmps244
  go_wp2
  go_ret
  exact⟨qL (by rw[dt.xn,if_pos H.out]),rfl⟩
 ·have b0:=jh h
  go_enter Tryz.func244,Tryz.ntmps244
  go_wp2
  go_ret
  exact⟨qL (by rw[dt.xn,if_neg h]),rfl⟩
theorem hexes_take (d:ByteArray)(w:World):Calls Tryz.prog 243 #[.agg #[],.string d] w fun e W'=>e= .returned (.int .i64 (dt.xn d))∧Below w.heap.size w W':=by
 have hB:=(Below.refl _ w).alloc (Nat.le_refl _) (.cells #[] 243)
 go_enter Tryz.func243,Tryz.ntmps243
 go_wp2_with (go_at_call 244;refine(some_any _ _).mono ?_;rintro e w1 ⟨rfl,rfl⟩)
 go_ret
 exact⟨rfl,hB⟩
theorem b64_take (d:ByteArray)(w:World):Calls Tryz.prog 251 #[.agg #[],.string d] w fun e W'=>e= .returned (.int .i64 (dt.xn d))∧Below w.heap.size w W':=by
 have hB:=(Below.refl _ w).alloc (Nat.le_refl _) (.cells #[] 245)
 go_enter Tryz.func251,Tryz.ntmps251
 go_wp2_with (go_at_call 244;refine(some_any _ _).mono ?_;rintro e w1 ⟨rfl,rfl⟩)
 go_ret
 exact⟨rfl,hB⟩
theorem tail_take (d:ByteArray)(w:World):Calls Tryz.prog 264 #[.agg #[],.string d] w fun e W'=>e= .returned (.int .i64 d.size)∧Below w.heap.size w W':=by
 have hB:=(Below.refl _ w).alloc (Nat.le_refl _) (.cells #[] 249)
 go_enter Tryz.func264,Tryz.ntmps264
 go_wp2
 go_ret
 exact⟨rfl,hB⟩
theorem Za (d:ByteArray)(w:World):Calls Tryz.prog 234 #[.agg #[],.string d] w fun e W'=>e= .returned (.int .i64 (dt.yI d))∧Below w.heap.size w W':=by
 have hB:=(Below.refl _ w).alloc (Nat.le_refl _) (.cells #[] 240)
 by_cases h:d.size=0
 ·have b0:=yP h
  have H:=Lib.hid h
  clear h
  go_enter Tryz.func234,Tryz.ntmps234
  go_wp2
  go_ret
  exact⟨qL (by rw[dt.yI,if_pos H.out]),hB⟩
 ·have b0:=jh h
  have hp:0<d.size:=by omega
  have hs:=zu hp
  have Vg:(d[0].toNat:Int)<256:=by have:=UInt8.toNat_lt d[0];omega
  have HS:=Lib.hid hs
  clear hs
  by_cases hl:(d.size:Int)≤d[0].toNat
  ·go_enter Tryz.func234,Tryz.ntmps234
   go_wp2
   go_ret
   exact⟨qL (by rw[dt.yI,if_neg h,HS.out,if_pos (by omega)]),hB⟩
  ·go_enter Tryz.func234,Tryz.ntmps234
   go_wp2
   go_ret
   exact⟨qL (by rw[dt.yI,if_neg h,HS.out,if_neg (by omega)]),hB⟩
theorem salt_take (d:ByteArray)(w:World):Calls Tryz.prog 258 #[.agg #[],.string d] w fun e W'=>e= .returned (.int .i64 (dt.yI d))∧Below w.heap.size w W':=by
 have hB:=(Below.refl _ w).alloc (Nat.le_refl _) (.cells #[] 247)
 go_enter Tryz.func258,Tryz.ntmps258
 go_wp2_with (go_at_call 234;refine(Za _ _).mono ?_;rintro e w1 ⟨rfl,hB1⟩)
 go_ret
 exact⟨rfl,hB.trans (hB1.mono (by simp))⟩
theorem hash_take (d:ByteArray)(w:World):Calls Tryz.prog 261 #[.agg #[],.string d] w fun e W'=>e= .returned (.int .i64 (dt.Zm d))∧Below w.heap.size w W':=by
 have hB:=(Below.refl _ w).alloc (Nat.le_refl _) (.cells #[] 248)
 by_cases h:d.size=0
 ·have b0:=yP h
  have H:=Lib.hid h
  clear h
  go_enter Tryz.func261,Tryz.ntmps261
  go_wp2
  go_ret
  exact⟨qL (by rw[dt.Zm,if_pos H.out]),hB⟩
 ·have b0:=jh h
  have hp:0<d.size:=by omega
  have hs:=zu hp
  have HS:=Lib.hid hs
  clear hs
  by_cases hl:d[0].toNat=0
  ·have b1:((d[0].toNat:Int) == 0)=true:=by rw[beq_iff_eq];omega
   have HL:=Lib.hid hl
   clear hl
   go_enter Tryz.func261,Tryz.ntmps261
   go_wp2
   go_ret
   exact⟨qL (by rw[dt.Zm,if_neg h,HS.out,if_pos HL.out]),hB⟩
  ·have b1:((d[0].toNat:Int) == 0)=false:=by rw[beq_eq_false_iff_ne];omega
   go_enter Tryz.func261,Tryz.ntmps261
   go_wp2_with (go_at_call 234;refine(Za _ _).mono ?_;rintro e w1 ⟨rfl,hB1⟩)
   go_ret
   exact⟨qL (by rw[dt.Zm,if_neg h,HS.out,if_neg hl]),hB.trans (hB1.mono (by simp))⟩
theorem texts_take (d:ByteArray)(hd:d.size≤65535)(w:World):Calls Tryz.prog 237 #[.agg #[],.string d] w fun e W'=>e= .returned (.int .i64 (dt.Qi d))∧Below w.heap.size w W':=by
 have hB:=Lib.hid ((Below.refl _ w).alloc (Nat.le_refl _) (.cells #[] 241))
 go_enter Tryz.func237,Tryz.ntmps237
 go_wp2
 go_loopw [5,6] (fun i _ wr=>∃k f:Nat,k≤d.size∧d.size<k+f∧i= .int .i64 k∧dt.Qi d=dt.jC d f k∧Below w.heap.size w wr) (fun i _ _=>d.size-(intOf i).toNat)
 case atStart=>exact⟨0,d.size+1,by omega,by omega,rfl,rfl,hB.out⟩
 case round=>
  obtain⟨k,f,hk,hf,rfl,he,hb⟩:=hrel
  obtain⟨f,rfl⟩:∃g,f=g+1:=⟨f-1,by omega⟩
  have HE:=Lib.hid he;have HB:=Lib.hid hb
  clear he hb
  by_cases hlt:k<d.size
  ·rcases dt.QJ (d.extract k d.size) with hn | ⟨hn1,hn2,hn3⟩
   ·have hn':dt.yI (d.extract k d.size)<0:=by omega
    have hfin:dt.Qi d= -1:=by rw[HE.out,dt.UE hlt hn']
    have HN:=Lib.hid hn;have HF:=Lib.hid hfin
    clear hn hfin
    go_wp2_with (go_at_call 234;refine(Za _ _).mono ?_;rintro e w1 ⟨rfl,hB1⟩)
    go_ret
    exact⟨qL HF.out.symm,HB.out.trans (hB1.mono HB.out.size)⟩
   ·rw[dt.size_extract d hk]at hn2
    have hfin:dt.Qi d=dt.jC d f (k+(dt.yI (d.extract k d.size)).toNat):=by rw[HE.out,dt.J5 hlt (by omega)]
    have HF:=Lib.hid hfin
    clear hfin
    go_wp2_with (go_at_call 234;refine(Za _ _).mono ?_;rintro e w1 ⟨rfl,hB1⟩)
    go_roundw
    case rel=>exact⟨k+(dt.yI (d.extract k d.size)).toNat,f,by omega,by omega,by rw[Int.natCast_add,Int.toNat_of_nonneg (by omega)],HF.out,HB.out.trans (hB1.mono HB.out.size)⟩
    case measure=>simp[intOf];omega
  ·have hke:k=d.size:=by omega
   have hfin:dt.Qi d=if k=0 then -1 else(k:Int):=by rw[HE.out,dt.J4 (by omega)]
   have HF:=Lib.hid hfin
   clear hfin
   by_cases h0:k=0
   ·have b0:((k:Int) == 0)=true:=by rw[beq_iff_eq];omega
    have H0:=Lib.hid h0
    clear hke h0
    go_wp2
    go_ret
    exact⟨qL (by rw[HF.out,if_pos H0.out]),HB.out⟩
   ·have b0:((k:Int) == 0)=false:=by rw[beq_eq_false_iff_ne];omega
    clear hke
    go_wp2
    go_ret
    exact⟨qL (by rw[HF.out,if_neg h0]),HB.out⟩
theorem host_take (d:ByteArray)(hd:d.size≤65535)(w:World):Calls Tryz.prog 225 #[.agg #[],.string d] w fun e W'=>e= .returned (.int .i64 (dt.xR d))∧Below w.heap.size w W':=by
 have hB:=Lib.hid ((Below.refl _ w).alloc (Nat.le_refl _) (.cells #[] 220))
 go_enter Tryz.func225,Tryz.ntmps225
 go_wp2
 go_loopw [5] (fun i wr=>∃k f:Nat,k≤d.size+256∧d.size<k+f∧i= .int .i64 k∧dt.xe d=dt.QW d f k∧Below w.heap.size w wr) (fun i _=>d.size+256-(intOf i).toNat)
 case atStart=>exact⟨0,d.size+1,by omega,by omega,rfl,rfl,hB.out⟩
 case round=>
  obtain⟨k,f,hk,hf,rfl,he,hb⟩:=hrel
  have HE:=Lib.hid he;have HB:=Lib.hid hb
  clear he hb
  by_cases hlt:k<d.size
  ·obtain⟨f,rfl⟩:∃g,f=g+1:=⟨f-1,by omega⟩
   have hsz:=zu hlt
   have Vg:(d[k].toNat:Int)<256:=by have:=UInt8.toNat_lt d[k];omega
   have hge:(0:Int)≤d[k].toNat:=by omega
   by_cases hz:0<d[k].toNat
   ·have hz':(0:Int)<d[k].toNat:=by omega
    have hfin:dt.xe d=dt.QW d f (k+1+d[k].toNat):=by rw[HE.out,dt.UY hlt (by omega),hsz]
    have HF:=Lib.hid hfin
    clear hfin hsz
    go_wp2
    go_roundw
    case rel=>exact⟨k+1+d[k].toNat,f,by omega,by omega,by go_num,HF.out,HB.out⟩
    case measure=>simp[intOf];omega
   ·have hz':¬(0:Int)<d[k].toNat:=by omega
    have hfin:dt.xe d=k:=by rw[HE.out,dt.Yz (by omega)]
    have hres:dt.xR d=if qj (d.extract 0 (k+1))=true then(k:Int)+1 else -1:=by rw[dt.xR,hfin,if_neg (by omega)]
    have HR:=Lib.hid hres
    clear hfin hsz hres
    cases hc:qj (d.extract 0 (k+1))
    ·have HC:=Lib.hid hc
     clear hc
     go_wp2_with (go_at_call 47;refine(zk _ _).mono ?_;rintro e w1 ⟨rfl,hB1⟩;rw[HC.out,Zi])
     go_ret
     exact⟨qL (by rw[HR.out,HC.out];rfl),HB.out.trans (hB1.mono HB.out.size)⟩
    ·have HC:=Lib.hid hc
     clear hc
     go_wp2_with (go_at_call 47;refine(zk _ _).mono ?_;rintro e w1 ⟨rfl,hB1⟩;rw[HC.out,uh])
     go_ret
     exact⟨qL (by rw[HR.out,HC.out];rfl),HB.out.trans (hB1.mono HB.out.size)⟩
  ·have hfin:dt.xe d=k:=by rw[HE.out,dt.Yz (by omega)]
   have hres:dt.xR d= -1:=by rw[dt.xR,hfin,if_pos (by omega)]
   have HR:=Lib.hid hres
   clear hfin hres
   go_wp2
   go_ret
   exact⟨qL HR.out.symm,HB.out⟩
end Go.Proofs.YtpcmilhjpmlbpaaGreatDoor
namespace Go.Proofs.YtpcmilhjpmlbpaaGreatDoor
open Go.RowKit Go.Shelf
namespace dt
inductive Fld where
 | num (n:Int) | ip4 | ip6 | host | text | texts | tail | YA | b64 | kind | kinds | Ke | hash
 deriving DecidableEq
def kD (t:Int):Option (List Fld):=
 if t=1 then some [.ip4] else
 if t=2 then some [.host] else
 if t=5 then some [.host] else
 if t=6 then some [.host,.host,.num 4,.num 4,.num 4,.num 4,.num 4] else
 if t=12 then some [.host] else
 if t=13 then some [.text,.text] else
 if t=15 then some [.num 2,.host] else
 if t=16 then some [.texts] else
 if t=28 then some [.ip6] else
 if t=33 then some [.num 2,.num 2,.num 2,.host] else
 if t=35 then some [.num 2,.num 2,.text,.text,.text,.host] else
 if t=39 then some [.host] else
 if t=43 then some [.num 2,.num 1,.num 1,.YA] else
 if t=46 then some [.kind,.num 1,.num 1,.num 4,.num 4,.num 4,.num 2,.host,.b64] else
 if t=47 then some [.host,.kinds] else
 if t=48 then some [.num 2,.num 1,.num 1,.b64] else
 if t=50 then some [.num 1,.num 1,.num 2,.Ke,.hash,.kinds] else
 if t=51 then some [.num 1,.num 1,.num 2,.Ke] else
 if t=257 then some [.num 1,.text,.tail] else
 none
theorem XM {t:Int}(h1:t≠1)(h2:t≠2)(h5:t≠5)(h6:t≠6)(h12:t≠12)(h13:t≠13)(h15:t≠15)(h16:t≠16)(h28:t≠28)(h33:t≠33)(h35:t≠35)(h39:t≠39)(h43:t≠43)(h46:t≠46)(h47:t≠47)(h48:t≠48)(h50:t≠50)(h51:t≠51)(QF:t≠257):kD t=none:=by
 unfold kD
 rw[if_neg h1,if_neg h2,if_neg h5,if_neg h6,if_neg h12,if_neg h13,if_neg h15,if_neg h16,if_neg h28,if_neg h33,if_neg h35,if_neg h39,if_neg h43,if_neg h46,if_neg h47,if_neg h48,if_neg h50,if_neg h51,if_neg QF]
end dt
open dt (Fld)
def tyF:Fld→TypeId
 | .num _=>238
 | .ip4=>239
 | .ip6=>242
 | .host=>220
 | .text=>240
 | .texts=>241
 | .tail=>249
 | .YA=>243
 | .b64=>245
 | .kind=>244
 | .kinds=>246
 | .Ke=>247
 | .hash=>248
def recvF:Fld→Value
 | .num n=>.int .i64 n
 | _=>.agg #[]
@[reducible] def encF (f:Fld):Value:=.iface (tyF f) (recvF f)
def jN (fs:List Fld)(w:World)(e:Ending)(w':World):Prop:=
 e= .returned (.tuple #[.slice (some ⟨w.heap.size,0,none⟩) fs.length fs.length,.bool true])∧w'=w.alloc (.cells (fs.map encF).toArray 218)
def xH (t:Int)(w:World)(e:Ending)(w':World):Prop:=
 match dt.kD t with
 | some fs=>jN fs w e w'
 | none=>e= .returned (.tuple #[.slice none 0 0,.bool false])∧w'=w
theorem form_1 (w:World):Calls Tryz.prog 150 #[.int .i64 1] w fun e w'=>jN [.ip4] w e w':=by
 go_enter Tryz.func150,Tryz.ntmps150
 go_wp2
 go_ret2
 exact⟨rfl,rfl⟩
theorem form_2 (w:World):Calls Tryz.prog 150 #[.int .i64 2] w fun e w'=>jN [.host] w e w':=by
 go_enter Tryz.func150,Tryz.ntmps150
 go_wp2
 go_ret2
 exact⟨rfl,rfl⟩
theorem form_5 (w:World):Calls Tryz.prog 150 #[.int .i64 5] w fun e w'=>jN [.host] w e w':=by
 go_enter Tryz.func150,Tryz.ntmps150
 go_wp2
 go_ret2
 exact⟨rfl,rfl⟩
theorem form_6 (w:World):Calls Tryz.prog 150 #[.int .i64 6] w fun e w'=>jN [.host,.host,.num 4,.num 4,.num 4,.num 4,.num 4] w e w':=by
 go_enter Tryz.func150,Tryz.ntmps150
 go_wp2
 go_ret2
 exact⟨rfl,rfl⟩
theorem form_12 (w:World):Calls Tryz.prog 150 #[.int .i64 12] w fun e w'=>jN [.host] w e w':=by
 go_enter Tryz.func150,Tryz.ntmps150
 go_wp2
 go_ret2
 exact⟨rfl,rfl⟩
theorem form_13 (w:World):Calls Tryz.prog 150 #[.int .i64 13] w fun e w'=>jN [.text,.text] w e w':=by
 go_enter Tryz.func150,Tryz.ntmps150
 go_wp2
 go_ret2
 exact⟨rfl,rfl⟩
theorem form_15 (w:World):Calls Tryz.prog 150 #[.int .i64 15] w fun e w'=>jN [.num 2,.host] w e w':=by
 go_enter Tryz.func150,Tryz.ntmps150
 go_wp2
 go_ret2
 exact⟨rfl,rfl⟩
theorem form_16 (w:World):Calls Tryz.prog 150 #[.int .i64 16] w fun e w'=>jN [.texts] w e w':=by
 go_enter Tryz.func150,Tryz.ntmps150
 go_wp2
 go_ret2
 exact⟨rfl,rfl⟩
theorem form_28 (w:World):Calls Tryz.prog 150 #[.int .i64 28] w fun e w'=>jN [.ip6] w e w':=by
 go_enter Tryz.func150,Tryz.ntmps150
 go_wp2
 go_ret2
 exact⟨rfl,rfl⟩
theorem form_33 (w:World):Calls Tryz.prog 150 #[.int .i64 33] w fun e w'=>jN [.num 2,.num 2,.num 2,.host] w e w':=by
 go_enter Tryz.func150,Tryz.ntmps150
 go_wp2
 go_ret2
 exact⟨rfl,rfl⟩
theorem form_35 (w:World):Calls Tryz.prog 150 #[.int .i64 35] w fun e w'=>jN [.num 2,.num 2,.text,.text,.text,.host] w e w':=by
 go_enter Tryz.func150,Tryz.ntmps150
 go_wp2
 go_ret2
 exact⟨rfl,rfl⟩
theorem form_39 (w:World):Calls Tryz.prog 150 #[.int .i64 39] w fun e w'=>jN [.host] w e w':=by
 go_enter Tryz.func150,Tryz.ntmps150
 go_wp2
 go_ret2
 exact⟨rfl,rfl⟩
theorem form_43 (w:World):Calls Tryz.prog 150 #[.int .i64 43] w fun e w'=>jN [.num 2,.num 1,.num 1,.YA] w e w':=by
 go_enter Tryz.func150,Tryz.ntmps150
 go_wp2
 go_ret2
 exact⟨rfl,rfl⟩
theorem form_46 (w:World):Calls Tryz.prog 150 #[.int .i64 46] w fun e w'=>jN [.kind,.num 1,.num 1,.num 4,.num 4,.num 4,.num 2,.host,.b64] w e w':=by
 go_enter Tryz.func150,Tryz.ntmps150
 go_wp2
 go_ret2
 exact⟨rfl,rfl⟩
theorem form_47 (w:World):Calls Tryz.prog 150 #[.int .i64 47] w fun e w'=>jN [.host,.kinds] w e w':=by
 go_enter Tryz.func150,Tryz.ntmps150
 go_wp2
 go_ret2
 exact⟨rfl,rfl⟩
theorem form_48 (w:World):Calls Tryz.prog 150 #[.int .i64 48] w fun e w'=>jN [.num 2,.num 1,.num 1,.b64] w e w':=by
 go_enter Tryz.func150,Tryz.ntmps150
 go_wp2
 go_ret2
 exact⟨rfl,rfl⟩
theorem form_50 (w:World):Calls Tryz.prog 150 #[.int .i64 50] w fun e w'=>jN [.num 1,.num 1,.num 2,.Ke,.hash,.kinds] w e w':=by
 go_enter Tryz.func150,Tryz.ntmps150
 go_wp2
 go_ret2
 exact⟨rfl,rfl⟩
theorem form_51 (w:World):Calls Tryz.prog 150 #[.int .i64 51] w fun e w'=>jN [.num 1,.num 1,.num 2,.Ke] w e w':=by
 go_enter Tryz.func150,Tryz.ntmps150
 go_wp2
 go_ret2
 exact⟨rfl,rfl⟩
theorem form_257 (w:World):Calls Tryz.prog 150 #[.int .i64 257] w fun e w'=>jN [.num 1,.text,.tail] w e w':=by
 go_enter Tryz.func150,Tryz.ntmps150
 go_wp2
 go_ret2
 exact⟨rfl,rfl⟩
theorem form_no (t:Int)(h1:t≠1)(h2:t≠2)(h5:t≠5)(h6:t≠6)(h12:t≠12)(h13:t≠13)(h15:t≠15)(h16:t≠16)(h28:t≠28)(h33:t≠33)(h35:t≠35)(h39:t≠39)(h43:t≠43)(h46:t≠46)(h47:t≠47)(h48:t≠48)(h50:t≠50)(h51:t≠51)(QF:t≠257)(w:World):Calls Tryz.prog 150 #[.int .i64 t] w fun e w'=>e= .returned (.tuple #[.slice none 0 0,.bool false])∧w'=w:=by
 have b1:(t == 1)=false:=by rw[beq_eq_false_iff_ne];exact h1
 have b2:(t == 2)=false:=by rw[beq_eq_false_iff_ne];exact h2
 have b5:(t == 5)=false:=by rw[beq_eq_false_iff_ne];exact h5
 have b6:(t == 6)=false:=by rw[beq_eq_false_iff_ne];exact h6
 have b12:(t == 12)=false:=by rw[beq_eq_false_iff_ne];exact h12
 have b13:(t == 13)=false:=by rw[beq_eq_false_iff_ne];exact h13
 have b15:(t == 15)=false:=by rw[beq_eq_false_iff_ne];exact h15
 have b16:(t == 16)=false:=by rw[beq_eq_false_iff_ne];exact h16
 have b28:(t == 28)=false:=by rw[beq_eq_false_iff_ne];exact h28
 have b33:(t == 33)=false:=by rw[beq_eq_false_iff_ne];exact h33
 have b35:(t == 35)=false:=by rw[beq_eq_false_iff_ne];exact h35
 have b39:(t == 39)=false:=by rw[beq_eq_false_iff_ne];exact h39
 have b43:(t == 43)=false:=by rw[beq_eq_false_iff_ne];exact h43
 have b46:(t == 46)=false:=by rw[beq_eq_false_iff_ne];exact h46
 have b47:(t == 47)=false:=by rw[beq_eq_false_iff_ne];exact h47
 have b48:(t == 48)=false:=by rw[beq_eq_false_iff_ne];exact h48
 have b50:(t == 50)=false:=by rw[beq_eq_false_iff_ne];exact h50
 have b51:(t == 51)=false:=by rw[beq_eq_false_iff_ne];exact h51
 have b257:(t == 257)=false:=by rw[beq_eq_false_iff_ne];exact QF
 clear h1 h2 h5 h6 h12 h13 h15 h16 h28 h33 h35 h39 h43 h46 h47 h48 h50 h51 QF
 go_enter Tryz.func150,Tryz.ntmps150
 go_wp2
 go_ret2
 exact⟨rfl,rfl⟩
theorem Zt (t:Int)(w:World):Calls Tryz.prog 150 #[.int .i64 t] w fun e w'=>xH t w e w':=by
 by_cases h1:t=1
 ·subst h1;exact form_1 w
 by_cases h2:t=2
 ·subst h2;exact form_2 w
 by_cases h5:t=5
 ·subst h5;exact form_5 w
 by_cases h6:t=6
 ·subst h6;exact form_6 w
 by_cases h12:t=12
 ·subst h12;exact form_12 w
 by_cases h13:t=13
 ·subst h13;exact form_13 w
 by_cases h15:t=15
 ·subst h15;exact form_15 w
 by_cases h16:t=16
 ·subst h16;exact form_16 w
 by_cases h28:t=28
 ·subst h28;exact form_28 w
 by_cases h33:t=33
 ·subst h33;exact form_33 w
 by_cases h35:t=35
 ·subst h35;exact form_35 w
 by_cases h39:t=39
 ·subst h39;exact form_39 w
 by_cases h43:t=43
 ·subst h43;exact form_43 w
 by_cases h46:t=46
 ·subst h46;exact form_46 w
 by_cases h47:t=47
 ·subst h47;exact form_47 w
 by_cases h48:t=48
 ·subst h48;exact form_48 w
 by_cases h50:t=50
 ·subst h50;exact form_50 w
 by_cases h51:t=51
 ·subst h51;exact form_51 w
 by_cases QF:t=257
 ·subst QF;exact form_257 w
 have hn:=dt.XM h1 h2 h5 h6 h12 h13 h15 h16 h28 h33 h35 h39 h43 h46 h47 h48 h50 h51 QF
 refine(form_no t h1 h2 h5 h6 h12 h13 h15 h16 h28 h33 h35 h39 h43 h46 h47 h48 h50 h51 QF w).mono fun e w' h=>?_
 unfold xH
 rw[hn]
 exact h
end Go.Proofs.YtpcmilhjpmlbpaaGreatDoor
namespace Go.Proofs.YtpcmilhjpmlbpaaGreatDoor
open Go.RowKit Go.Shelf
namespace nm
def jS (s:ByteArray):Bool:=qj s && Lib.hasPrefix s.data.toList starHead.data.toList
end nm
theorem Xq (s:ByteArray)(w:World):Calls Tryz.prog 121 #[.string s] w fun e W'=>e= .returned (.bool (nm.jS s))∧Below w.heap.size w W':=by
 cases hc:nm.qj s
 ·have HC:=Lib.hid hc
  clear hc
  go_enter Tryz.func121,Tryz.ntmps121
  go_wp2_with (first | (go_at_call 47;refine(zk _ _).mono ?_;rintro e w1 ⟨rfl,hB1⟩;rw[HC.out,Zi]))
  go_ret
  refine⟨?_,hB1⟩
  unfold nm.jS
  rw[HC.out]
  rfl
 ·have HC:=Lib.hid hc
  clear hc
  go_enter Tryz.func121,Tryz.ntmps121
  go_wp2_with (first | (go_at_call 47;refine(zk _ _).mono ?_;rintro e w1 ⟨rfl,hB1⟩;rw[HC.out,uh]) | (go_at_call 156;refine(Tryz.strings_HasPrefix _ _ _).mono ?_;rintro e w2 ⟨rfl,rfl⟩))
  go_ret
  refine⟨?_,hB1⟩
  unfold nm.jS
  rw[HC.out]
  rfl
end Go.Proofs.YtpcmilhjpmlbpaaGreatDoor
namespace Go.Proofs.YtpcmilhjpmlbpaaGreatDoor
open Go.RowKit Go.Shelf
attribute [local go_sem] Oper.semAt_some
namespace nm
def uM (p:List (Nat×ByteArray)):List ByteArray:=(p.map (·.2)).filter (fun l=>!l.toList.isEmpty)
def yN (s:ByteArray):List ByteArray:=if qj s=true then uM (marks s) else []
end nm
theorem labels_no (F:Fence)(n:Nat)(h2:F.fn 170)(h4:F.fn 47)(h6:F.fn 84)(h8:F.fn 135)(hro:F.round=none)(hn:4≤n)(s:ByteArray)(hc:nm.qj s=false)(w:World):
 CallsIn F n Tryz.prog 170 #[.string s] w fun e W'=>e= .returned (.slice none 0 0)∧Below w.heap.size w W':=by
 have h1:1≤n:=by omega
 have HC:=Lib.hid hc
 clear hc
 refine callsIn_of_wp_marks Tryz.func170 rfl h2 ?_ hro
 simp only[Tryz.ntmps170,List.size_toArray,List.length_cons,List.length_nil,Nat.reduceAdd,Nat.reduceSub,Array.replicate_succ,Array.replicate_zero,List.push_toArray,List.append_toArray,List.nil_append,List.cons_append]
 have hB0:=(Below.refl _ w).alloc (Nat.le_refl _) (.cells #[.slice none 0 0] 148)
 gi_wp2_with (gi_at_call 47;refine(Zx F (n-1) h4 h6 h8 hro (by omega) s _).mono ?_;rintro e w1 ⟨rfl,hB1⟩;rw[HC.out,Zi])
 refine⟨.slice none 0 0,?_,rfl,hB0.trans (hB1.mono (by simp))⟩
 simp[results,Tryz.f170,go_sem]
theorem Uu {W w1:World}{n₀ B b m₀:Nat}{t e:TypeId}{size:Nat}{v v':Value}{k m:Nat}{xs ys:List Value}{tmp:Obj}
 (hv:Boxed W B t v) (hte:t≠e) (hrow:W.ownsRow n₀ e size v k xs) (hn₀:n₀≤W.heap.size) (hb:b<n₀) (hbB:b≠B) (hm:m₀≤n₀) (hmB:m₀≤B)
 (hown':w1.ownsRow n₀ e size v' m ys) (hgrow:(W.alloc tmp).grownBy w1 v.ownBlock):
 Boxed w1 B t v∧Boxed (w1.setCell ⟨B,0,none⟩ v') B t v'∧(w1.setCell ⟨B,0,none⟩ v').ownsRow n₀ e size v' m ys∧KeepsOthers W (w1.setCell ⟨B,0,none⟩ v')∧qY b W (w1.setCell ⟨B,0,none⟩ v')∧Below m₀ W (w1.setCell ⟨B,0,none⟩ v'):=by
 have hv1:Boxed w1 B t v:=(hv.alloc tmp).kept hgrow (hv.not_row hte hrow)
 have hown:∀j,v.ownBlock=some j→n₀≤j:=by
  intro j ej
  rcases hrow.2 with⟨rfl,_⟩|⟨g,cap,cur,rfl,hb,_,_⟩
  ·simp[Value.ownBlock]at ej
  ·obtain rfl:g=j:=by simpa[Value.ownBlock] using ej
   exact hb
 refine⟨hv1,hv1.set v',hown'.kept (grownBy_setCell' w1 B v') (.inr (hv1.not_row hte hown').symm),?_,?_,?_⟩
 ·refine((KeepsOthers.alloc W tmp).trans (KeepsOthers.of_grownBy hgrow fun j o ej hj=>?_)).trans (KeepsOthers.setCell _ _ _)
  rcases(hrow.alloc tmp).2 with⟨rfl,_⟩|⟨g,cap,cur,rfl,_,hgb,_⟩
  ·simp[Value.ownBlock]at ej
  ·obtain rfl:g=j:=by simpa[Value.ownBlock] using ej
   rw[hgb]at hj;cases hj;rfl
 ·have h1:qY b W (W.alloc tmp):=(qY.refl b W).alloc (by omega) tmp
  have h2:qY b (W.alloc tmp) w1:=hgrow.block b (by simp;omega) (fun ej=>by have:=hown b ej.symm;omega)
  exact qY.setCell (show qY b W w1 from h2.trans h1) hbB v'
 ·refine(((Below.refl m₀ W).alloc (by omega) tmp).grown hgrow (by simp;omega) fun j ej=>?_).setCell (p:=⟨B,0,none⟩) hmB v'
  have:=hown j ej
  omega
theorem Yx:(Tryz.prog.info? 9).map (fun i=>(i.zero,i.size,i.bytes))=some (some (.string ByteArray.empty),1,16):=by kernel_rfl
theorem qK {W:World}{base base':Nat}{e:TypeId}{size:Nat}{v:Value}{m:Nat}{xs:List Value}(h:W.ownsRow base e size v m xs)(hb:base'≤base):W.ownsRow base' e size v m xs:=by
 refine⟨h.1,?_⟩
 rcases h.2 with hn | ⟨g,cap,cur,hv,hg,rest⟩
 ·exact .inl hn
 ·exact .inr ⟨g,cap,cur,hv,by omega,rest⟩
theorem labelsL_in (F:Fence)(n:Nat)(h2:F.fn 170)(h4:F.fn 47)(h6:F.fn 84)(h8:F.fn 135)(hro:F.round=none)(hn:4≤n)(s:ByteArray)(hc:nm.qj s=true)(w:World):
 CallsIn F n Tryz.prog 170 #[.string s] w fun e W'=>(∃v,e= .returned v∧W'.ownsRow w.heap.size 9 1 v (nm.yN s).length ((nm.yN s).map .string))∧Below w.heap.size w W':=by
 have h1:1≤n:=by omega
 have hs:=qQ hc
 have hml:=nm.uV s
 have HC:=Lib.hid hc
 clear hc
 refine callsIn_of_wp_marks Tryz.func170 rfl h2 ?_ hro
 simp only[Tryz.ntmps170,List.size_toArray,List.length_cons,List.length_nil,Nat.reduceAdd,Nat.reduceSub,Array.replicate_succ,Array.replicate_zero,List.push_toArray,List.append_toArray,List.nil_append,List.cons_append]
 have hB0:=(Below.refl _ w).alloc (Nat.le_refl _) (.cells #[.slice none 0 0] 148)
 have D1:=Lib.hid (Boxed.new w 148 (.slice none 0 0))
 gi_wp2_with (first
  | (gi_at_call 47;refine(Zx F (n-1) h4 h6 h8 hro (by omega) s _).mono ?_;rintro e w1 ⟨rfl,hB1⟩;rw[HC.out,uh])
  | (gi_at_call 84;refine(Y2 F (n-1) h6 hro _ _).mono ?_;rintro e w' ⟨rfl,rfl⟩))
 have c2:=zq w1 (.string s) 9
 have hsz:=hB1.size
 simp only[World.size_alloc]at hsz
 have hb1:Boxed (w1.alloc (.cells #[.string s] 9)) w.heap.size 148 (.slice none 0 0):=Boxed.alloc ((hB1.block _ (by simp)).trans D1.out) _
 have hBW:Below w.heap.size w (w1.alloc (.cells #[.string s] 9)):=(hB0.trans (hB1.mono (by simp))).alloc (by omega) _
 refine wpIn_rangeFunc_ownF hro h1 (gf:=135) (lb:=#[.pointer (some ⟨w1.heap.size,0,none⟩)]) rfl h8 (enters_of Tryz.func135 (by kernel_rfl) rfl)
  (Jl F (n-1) h8 hro (by omega) w1.heap.size s (by omega) _ (by simp) c2.1) kM (kP (by simp)) (Below.refl _ _) (fun _=>rfl)
  (fun pre W=>(∃v,Boxed W w.heap.size 148 v∧W.ownsRow (w1.heap.size+1) 9 1 v (nm.uM (pre.map (·.1))).length ((nm.uM (pre.map (·.1))).map .string)∧True)∧(w1.heap.size+1≤W.heap.size∧Below w.heap.size w W))
  (fun _ _ _=>False)
  (OwnFrom.and (Own.from (holdsRow_own (w1.heap.size+1) w.heap.size 148 9 1 (fun pre:List { p:Nat×ByteArray // p∈nm.marks s}=>(nm.uM (pre.map (·.1))).length) (fun pre=>(nm.uM (pre.map (·.1))).map .string) (fun _ _=>True)) _) (OwnFrom.and (fun s A B row hs hg hr=>Nat.le_trans hs hg.size) (ownFrom_below (by omega) (by simp;omega))))
  (fun _ _ _ _ _ h _ _=>h)
  ⟨⟨_,hb1,World.ownsRow_nil _ _ _ _,trivial⟩,by simp,hBW⟩
  (fun x=>{ tmps:=#[.string s,undef,.slice none 0 0,.pointer (some ⟨w.heap.size,0,none⟩),undef,.string x.1.2,.string s,.int .i64 0,.bool false,.string s,
   .func (.func 135) #[] #[.pointer (some ⟨w1.heap.size,0,none⟩)],.int .i64 (x.1.1:Int),.string x.1.2,undef,undef,undef,undef,undef,undef,undef],defers:=[]}) ?assign ?body ?done ?stop
 case assign=>
  intro l x W K hK
  dsimp only[markV]
  gi_wp2
  exact hK
 case body=>
  rintro l pre x W ⟨⟨v,hv,hrow,_⟩,hws,hB⟩ hlen
  have hx:=hv.cell
  have hfz:=hv.frozen
  have HB:=Lib.hid hB;have HR:=Lib.hid hrow;have HV:=Lib.hid hv
  have HL:=Lib.hid hlen
  clear hB hrow hv hlen
  cases he:x.1.2.toList.isEmpty
  ·have hkl:nm.uM ((pre ++ [x]).map (·.1))=nm.uM (pre.map (·.1)) ++ [x.1.2]:=by
    unfold nm.uM
    rw[List.map_append,List.map_append,List.filter_append]
    congr 1
    simp[he]
   have HKL:=Lib.hid hkl
   clear hkl
   obtain⟨i0,hi,hz0,hz1,hz2⟩:=info_parts Yx
   have hkn:(nm.uM (pre.map (·.1))).length≤pre.length:=by
    unfold nm.uM
    refine Nat.le_trans (List.length_filter_le _ _) (by simp)
   have q1:(nm.uM (pre.map (·.1))).length+1≤maxLen:=by have:=HL.out;simp only[maxLen];omega
   have q2:((nm.uM (pre.map (·.1))).length+1)*16≤140737488355328:=by have:=HL.out;omega
   have Q1:=Lib.hid q1;have Q2:=Lib.hid q2
   have HI:=Lib.hid hi;have HZ:=Lib.hid hz0;have HZ1:=Lib.hid hz1;have HZ2:=Lib.hid hz2
   clear hkn q1 q2 hi hz0 hz1 hz2
   gi_wp2_with (gi_at_builtin;refine wpListIn_append_own _ rfl _ _ 148 rfl (w1.heap.size+1) 9 i0 (.string ByteArray.empty) 1 16 Tryz.underlying148 HI.out HZ.out HZ1.out HZ2.out rfl (by decide) _ _ _ rfl (HR.out.alloc _) ⟨W.heap.size,0,none⟩ 1 1 [.string x.1.2] rfl rfl (cell_one_new _ _ _) (by simp[Value.oneCell']) Q1.out Q2.out (by simp;omega) ?_;intro v' w2 hown' hgrow _;obtain⟨g',cap',rfl⟩:=ownsRow_succ hown';obtain⟨hv1,hv2,hr2,hk2,hkb,hb2⟩:=Uu (b:=w1.heap.size) (m₀:=w.heap.size) HV.out (by decide) HR.out (by omega) (by omega) (by omega) (by omega) (by omega) hown' hgrow;have hc1:=hv1.cell;have hf1:=hv1.frozen;have HV2:=Lib.hid hv2;have HR2:=Lib.hid hr2;have HK2:=Lib.hid hk2;have HKB:=Lib.hid hkb;have HB2:=Lib.hid hb2;clear hown' hgrow hv1 hv2 hr2 hk2 hkb hb2)
   refine⟨HK2.out,HKB.out,⟨_,HV2.out,?_⟩,Nat.le_trans hws HB2.out.size,HB.out.trans HB2.out⟩
   have hr:=HR2.out
   rw[HKL.out]
   simp
   exact hr
  ·have hkl:nm.uM ((pre ++ [x]).map (·.1))=nm.uM (pre.map (·.1)):=by
    unfold nm.uM
    rw[List.map_append,List.map_append,List.filter_append]
    simp[he]
   have HKL:=Lib.hid hkl
   clear hkl
   gi_wp2
   refine⟨KeepsOthers.refl _,qY.refl _ _,⟨_,HV.out,?_⟩,hws,HB.out⟩
   rw[HKL.out]
   exact HR.out
 case done=>
  rintro D ys W hD hys ⟨⟨v,hv,hrow,_⟩,hws,hB⟩ hK
  have hx:=hv.cell
  have HYS:=Lib.hid hys
  clear hys
  gi_wp2
  refine⟨by simp,.inl ⟨_,_,rfl,run_takeDeferred hK,?_⟩⟩
  refine⟨_,results_tmp rfl _ _ _,⟨v,rfl,?_⟩,hB.trans (belowK_b (w:=w) (Nat.le_refl _) W D _ _ (by simp at hD;omega) hK rfl rfl)⟩
  have hll:nm.yN s=nm.uM (ys.map (·.1)):=by
   unfold nm.yN
   rw[if_pos HC.out,HYS.out]
  rw[hll]
  exact ownsRow_putObj (qK hrow (by omega)) _ hK rfl
 case stop=>
  rintro D cd pre W hD hpre h hK
  exact h.elim
theorem uL (s:ByteArray)(w:World):Calls Tryz.prog 170 #[.string s] w fun e W'=>(∃v,e= .returned v∧W'.ownsRow w.heap.size 9 1 v (nm.yN s).length ((nm.yN s).map .string))∧Below w.heap.size w W':=by
 refine(callsIn_wide (n:=4)).1 ?_
 cases hc:nm.qj s
 ·refine(labels_no Fence.wide 4 trivial trivial trivial trivial rfl (Nat.le_refl _) s hc w).mono ?_
  rintro e w' ⟨rfl,hB⟩
  have hl:nm.yN s= []:=by unfold nm.yN;rw[if_neg (by rw[hc];simp)]
  rw[hl]
  exact⟨⟨_,rfl,World.ownsRow_nil _ _ _ _⟩,hB⟩
 ·exact labelsL_in Fence.wide 4 trivial trivial trivial trivial rfl (Nat.le_refl _) s hc w
end Go.Proofs.YtpcmilhjpmlbpaaGreatDoor
namespace Go.Proofs.YtpcmilhjpmlbpaaGreatDoor
open Go.RowKit Go.Shelf
namespace nm
def yc:List ByteArray→List ByteArray→Int
 | [],[]=>0
 | [],_ :: _=>-1
 | _ :: _,[]=>1
 | a :: x,b :: y=>if Lib.compareBytes a.data.toList b.data.toList=0 then yc x y else Lib.compareBytes a.data.toList b.data.toList
def zg (a b:ByteArray):Int:=if qj a=true∧qj b=true then yc (yN (j5 a)).reverse (yN (j5 b)).reverse else 0
theorem Ze {X:List ByteArray}{k:Nat}(h1:1≤k)(h2:k≤X.length):X.reverse.drop (k-1)=X[X.length-k]'(by omega) :: X.reverse.drop k:=by
 obtain⟨k,rfl⟩:∃j,k=j+1:=⟨k-1,by omega⟩
 rw[Nat.add_sub_cancel,List.drop_eq_getElem_cons (by simp;omega)]
 congr 1
 rw[List.getElem_reverse]
 congr 1
 omega
theorem cmp_next {X Y:List ByteArray}{k:Nat}(h1:1≤k)(hx:k≤X.length)(hy:k≤Y.length)(h:Lib.compareBytes (X[X.length-k]'(by omega)).data.toList (Y[Y.length-k]'(by omega)).data.toList=0):
 yc (X.reverse.drop (k-1)) (Y.reverse.drop (k-1))=yc (X.reverse.drop k) (Y.reverse.drop k):=by
 rw[Ze h1 hx,Ze h1 hy,yc,if_pos h]
theorem cmp_stop {X Y:List ByteArray}{k:Nat}(h1:1≤k)(hx:k≤X.length)(hy:k≤Y.length)(h:Lib.compareBytes (X[X.length-k]'(by omega)).data.toList (Y[Y.length-k]'(by omega)).data.toList≠0):
 yc (X.reverse.drop (k-1)) (Y.reverse.drop (k-1))=Lib.compareBytes (X[X.length-k]'(by omega)).data.toList (Y[Y.length-k]'(by omega)).data.toList:=by
 rw[Ze h1 hx,Ze h1 hy,yc,if_neg h]
theorem cmp_end {X Y:List ByteArray}{k:Nat}(h1:1≤k)(hx:k≤X.length+1)(hy:k≤Y.length+1)(h:X.length<k∨Y.length<k):
 yc (X.reverse.drop (k-1)) (Y.reverse.drop (k-1))=if X.length<Y.length then -1 else if Y.length<X.length then 1 else 0:=by
 by_cases a:X.length<Y.length
 ·have hx0:X.reverse.drop (k-1)= []:=List.drop_eq_nil_of_le (by simp;omega)
  rw[if_pos a,hx0,Ze h1 (by omega),yc]
 ·rw[if_neg a]
  by_cases b:Y.length<X.length
  ·have hy0:Y.reverse.drop (k-1)= []:=List.drop_eq_nil_of_le (by simp;omega)
   rw[if_pos b,hy0,Ze h1 (by omega),yc]
  ·have hx0:X.reverse.drop (k-1)= []:=List.drop_eq_nil_of_le (by simp;omega)
   have hy0:Y.reverse.drop (k-1)= []:=List.drop_eq_nil_of_le (by simp;omega)
   rw[if_neg b,hx0,hy0,yc]
theorem cmp_range (a b:ByteArray):-1≤Lib.compareBytes a.data.toList b.data.toList∧Lib.compareBytes a.data.toList b.data.toList≤1:=by
 have h:∀x y:List UInt8,-1≤Lib.compareBytes x y∧Lib.compareBytes x y≤1:=by
  intro x
  induction x with
  | nil=>intro y;cases y <;> simp[Lib.compareBytes]
  | cons c x ih=>
    intro y
    cases y with
    | nil=>simp[Lib.compareBytes]
    | cons d y=>
      rw[Lib.compareBytes]
      split
      ·omega
      ·split
       ·omega
       ·exact ih y
 exact h _ _
theorem UU (s:ByteArray):(yN s).length≤s.size:=by
 unfold yN
 split
 ·unfold uM
  refine Nat.le_trans (List.length_filter_le _ _) ?_
  rw[List.length_map]
  exact uV s
 ·exact Nat.zero_le _
theorem Uj (s:ByteArray):(j5 s).size=s.size:=by
 show(j5 s).data.size=s.data.size
 unfold j5
 simp
end nm
theorem YI {B:Nat}{a w:World}(h:Below B a w)(n:Nat):Below B a (w.drewN n):=⟨h.os,h.tape,h.output,h.size,h.block⟩
theorem Kk {W W':World}{base:Nat}{e:TypeId}{v:Value}{xs:List ByteArray}(h:W.ownsRow base e 1 v xs.length (xs.map .string))(hk:∀g,g<W.heap.size→W'.heap[g]? =W.heap[g]?):
 ∃a cap,v= .slice a xs.length cap∧xs.length≤cap∧∀j (hj:j<xs.length),∃g,a=some ⟨g,0,none⟩∧W'.cell? ⟨g,j,none⟩=some (.string xs[j]):=by
 rcases h.2 with⟨rfl,h0⟩|⟨g,cap,cur,rfl,_,hg,hnc,_,_,hx⟩
 ·exact⟨none,0,by rw[h0],by omega,fun j hj=>by omega⟩
 ·refine⟨_,cap,rfl,hnc,fun j hj=>⟨g,rfl,?_⟩⟩
  have hg':=(hk g (qo hg)).trans hg
  rw[qg hg']
  have h2:(xs.map Value.string)[j]? =some (.string xs[j]):=by rw[List.getElem?_map,List.getElem?_eq_getElem hj];rfl
  rw[← h2,← hx,List.getElem?_take]
  split
  ·simp
  ·omega
theorem vZ {W:World}{base:Nat}{e:TypeId}{g n cap:Nat}{xs:List Value}(h:W.ownsRow base e 1 (.slice (some ⟨g,0,none⟩) n cap) n xs):∀j (hj:j<xs.length),W.cell? ⟨g,j,none⟩=some xs[j]:=by
 intro j hj
 rcases h.2 with⟨h0,_⟩|⟨g',cap',cur,he,_,hg,hnc,_,_,hx⟩
 ·cases h0
 ·simp only[Value.slice.injEq,Option.some.injEq,Addr.mk.injEq,and_true,true_and]at he
  obtain⟨rfl,rfl⟩:=he
  rw[qg hg]
  have h2:xs[j]? =some xs[j]:=List.getElem?_eq_getElem hj
  rw[← h2,← hx,List.getElem?_take]
  split
  ·simp
  ·have:=h.1;omega
theorem compare_no (a b:ByteArray)(ha:a.size≤140737488355328)(hb:b.size≤140737488355328)(h:¬(nm.qj a=true∧nm.qj b=true))(w:World):Calls Tryz.prog 128 #[.string a,.string b] w fun e W'=>e= .returned (.int .i64 (nm.zg a b))∧Below w.heap.size w W':=by
 have hr:nm.zg a b=0:=by unfold nm.zg;rw[if_neg h]
 have HR:=Lib.hid hr
 clear hr
 cases ca:nm.qj a
 ·have CA:=Lib.hid ca
  clear ca h
  go_enter Tryz.func128,Tryz.ntmps128
  go_wp2_with fail
  refine(uK a ha _).mono ?_;rintro e w1 ⟨rfl,hB1⟩
  go_wp2_with fail
  refine(uL _ _).mono ?_;rintro e w2 ⟨⟨v1,rfl,hR1⟩,hB2⟩
  go_wp2_with fail
  refine(uK b hb _).mono ?_;rintro e w3 ⟨rfl,hB3⟩
  go_wp2_with fail
  refine(uL _ _).mono ?_;rintro e w4 ⟨⟨v2,rfl,hR2⟩,hB4⟩
  go_wp2_with (go_at_call 47;refine(zk _ _).mono ?_;rintro e w5 ⟨rfl,hB5⟩;rw[CA.out,Zi])
  go_ret
  have z1:=hB1.size;have z2:=hB2.size;have z3:=hB3.size;have z4:=hB4.size
  exact⟨qL HR.out.symm,(((hB1.trans (hB2.mono z1)).trans (hB3.mono (by omega))).trans (hB4.mono (by omega))).trans (hB5.mono (by omega))⟩
 ·cases cb:nm.qj b
  ·have CA:=Lib.hid ca;have CB:=Lib.hid cb
   clear ca cb h
   go_enter Tryz.func128,Tryz.ntmps128
   go_wp2_with fail
   refine(uK a ha _).mono ?_;rintro e w1 ⟨rfl,hB1⟩
   go_wp2_with fail
   refine(uL _ _).mono ?_;rintro e w2 ⟨⟨v1,rfl,hR1⟩,hB2⟩
   go_wp2_with fail
   refine(uK b hb _).mono ?_;rintro e w3 ⟨rfl,hB3⟩
   go_wp2_with fail
   refine(uL _ _).mono ?_;rintro e w4 ⟨⟨v2,rfl,hR2⟩,hB4⟩
   go_wp2_with fail
   refine(zk _ _).mono ?_;rintro e w5 ⟨rfl,hB5⟩;rw[CA.out,uh]
   go_wp2_with fail
   refine(zk _ _).mono ?_;rintro e w6 ⟨rfl,hB6⟩;rw[CB.out,Zi]
   go_wp2_with fail
   go_ret
   have z1:=hB1.size;have z2:=hB2.size;have z3:=hB3.size;have z4:=hB4.size;have z5:=hB5.size
   exact⟨qL HR.out.symm,((((hB1.trans (hB2.mono z1)).trans (hB3.mono (by omega))).trans (hB4.mono (by omega))).trans (hB5.mono (by omega))).trans (hB6.mono (by omega))⟩
  ·exact absurd ⟨ca,cb⟩ h
theorem compare_yes (a b:ByteArray)(ha:nm.qj a=true)(hb:nm.qj b=true)(w:World):Calls Tryz.prog 128 #[.string a,.string b] w fun e W'=>e= .returned (.int .i64 (nm.zg a b))∧Below w.heap.size w W':=by
 have hr:nm.zg a b=nm.yc (nm.yN (nm.j5 a)).reverse (nm.yN (nm.j5 b)).reverse:=by unfold nm.zg;rw[if_pos ⟨ha,hb⟩]
 have sa:=qQ ha
 have sb:=qQ hb
 have CA:=Lib.hid ha;have CB:=Lib.hid hb
 clear ha hb
 have hlx:=nm.UU (nm.j5 a)
 have hly:=nm.UU (nm.j5 b)
 rw[nm.Uj]at hlx hly
 go_enter Tryz.func128,Tryz.ntmps128
 obtain⟨X,hX⟩:∃X,X=nm.yN (nm.j5 a):=⟨_,rfl⟩
 obtain⟨Y,hY⟩:∃Y,Y=nm.yN (nm.j5 b):=⟨_,rfl⟩
 rw[← hX,← hY]at hr
 rw[← hX]at hlx
 rw[← hY]at hly
 have HR:=Lib.hid hr;have HX:=Lib.hid hX;have HY:=Lib.hid hY
 clear hr hX hY
 go_wp2_with fail
 refine(uK a (by omega) _).mono ?_;rintro e w1 ⟨rfl,hB1⟩
 go_wp2_with fail
 refine(uL _ _).mono ?_;rintro e w2 ⟨⟨v1,rfl,hR1⟩,hB2⟩
 rw[← HX.out]at hR1
 have HR1:=Lib.hid hR1
 clear hR1
 go_wp2_with fail
 refine(uK b (by omega) _).mono ?_;rintro e w3 ⟨rfl,hB3⟩
 go_wp2_with fail
 refine(uL _ _).mono ?_;rintro e w4 ⟨⟨v2,rfl,hR2⟩,hB4⟩
 rw[← HY.out]at hR2
 have HR2:=Lib.hid hR2
 clear hR2
 go_wp2_with fail
 refine(zk _ _).mono ?_;rintro e w5 ⟨rfl,hB5⟩;rw[CA.out,uh]
 go_wp2_with fail
 refine(zk _ _).mono ?_;rintro e w6 ⟨rfl,hB6⟩;rw[CB.out,uh]
 have z1:=hB1.size;have z2:=hB2.size;have z3:=hB3.size;have z4:=hB4.size;have z5:=hB5.size
 have hB:=Lib.hid (((((hB1.trans (hB2.mono z1)).trans (hB3.mono (by omega))).trans (hB4.mono (by omega))).trans (hB5.mono (by omega))).trans (hB6.mono (by omega)))
 have k1:∀g,g<w2.heap.size→w6.heap[g]? =w2.heap[g]?:=fun g hg=>(hB6.block g (by omega)).trans ((hB5.block g (by omega)).trans ((hB4.block g (by omega)).trans (hB3.block g hg)))
 have k2:∀g,g<w4.heap.size→w6.heap[g]? =w4.heap[g]?:=fun g hg=>(hB6.block g (by omega)).trans (hB5.block g hg)
 have K1:=Lib.hid k1;have K2:=Lib.hid k2
 clear k1 k2
 obtain⟨ax,cx,hv1,hcx,fx⟩:=Kk HR1.out K1.out
 obtain⟨ay,cy,hv2,hcy,fy⟩:=Kk HR2.out K2.out
 subst hv1 hv2
 have FX:=Lib.hid fx;have FY:=Lib.hid fy
 clear fx fy
 go_wp2_with fail
 go_loopw [7,4,8] (fun kv _ _ wr=>∃k:Nat,1≤k∧k≤X.length+1∧k≤Y.length+1∧kv= .int .i64 k∧nm.zg a b=nm.yc (X.reverse.drop (k-1)) (Y.reverse.drop (k-1))∧wr.heap=w6.heap∧Below w.heap.size w wr) (fun kv _ _ _=>X.length+2-(intOf kv).toNat)
 case atStart=>exact⟨1,by omega,by omega,by omega,rfl,HR.out,rfl,hB.out⟩
 case round=>
  obtain⟨k,hk1,hkx,hky,rfl,he,hh,hb⟩:=hrel
  have HE:=Lib.hid he;have HH:=Lib.hid hh;have HB:=Lib.hid hb
  clear he hh hb
  by_cases hlt:k≤X.length∧k≤Y.length
  ·obtain⟨hlx',hly'⟩:=hlt
   obtain⟨gx,rfl,cx1⟩:=FX.out (X.length-k) (by omega)
   obtain⟨gy,rfl,cy1⟩:=FY.out (Y.length-k) (by omega)
   rw[← World.cell?_of_block (w:=w6) (a:=⟨gx,X.length-k,none⟩) (by rw[HH.out])]at cx1
   rw[← World.cell?_of_block (w:=w6) (a:=⟨gy,Y.length-k,none⟩) (by rw[HH.out])]at cy1
   have e1:IntKind.i64.wrap ((X.length:Int)-k)=(X.length:Int)-k:=IntWalk.i64_in _ (by omega)
   have e2:(0:Int)≤(X.length:Int)-k:=by omega
   have e3:((X.length:Int)-k).toNat=X.length-k:=by omega
   have e4:IntKind.i64.wrap ((Y.length:Int)-k)=(Y.length:Int)-k:=IntWalk.i64_in _ (by omega)
   have e5:(0:Int)≤(Y.length:Int)-k:=by omega
   have e6:((Y.length:Int)-k).toNat=Y.length-k:=by omega
   have e7:(X.length:Int)-k<X.length:=by omega
   have e8:(Y.length:Int)-k<Y.length:=by omega
   have px:X.length-k<X.length:=by omega
   have py:Y.length-k<Y.length:=by omega
   have hcr:=nm.cmp_range (X[X.length-k]'px) (Y[Y.length-k]'py)
   have HCR:=Lib.hid hcr
   clear hcr
   by_cases hc0:Lib.compareBytes (X[X.length-k]'px).data.toList (Y[Y.length-k]'py).data.toList=0
   ·have hnx:nm.zg a b=nm.yc (X.reverse.drop k) (Y.reverse.drop k):=by rw[HE.out,nm.cmp_next hk1 hlx' hly' hc0]
    have b1:(Lib.compareBytes (X[X.length-k]'px).data.toList (Y[Y.length-k]'py).data.toList != 0)=false:=by rw[hc0];rfl
    have HN:=Lib.hid hnx
    clear hnx hc0
    go_wp2_with fail
    go_quiet ((go_at_call 130;exact Calls.quiet_of_same (Tryz.strings_Compare _ _ _)))
    go_wp2_with fail
    go_roundw
    case rel=>exact⟨k+1,by omega,by omega,by omega,by go_num,by rw[Nat.add_sub_cancel];exact HN.out,HH.out,YI HB.out _⟩
    case measure=>simp[intOf];omega
   ·have hnx:nm.zg a b=Lib.compareBytes (X[X.length-k]'px).data.toList (Y[Y.length-k]'py).data.toList:=by rw[HE.out,nm.cmp_stop hk1 hlx' hly' hc0]
    have b1:(Lib.compareBytes (X[X.length-k]'px).data.toList (Y[Y.length-k]'py).data.toList != 0)=true:=by rw[bne_iff_ne];exact hc0
    have HN:=Lib.hid hnx
    clear hnx hc0
    go_wp2_with fail
    go_quiet ((go_at_call 130;exact Calls.quiet_of_same (Tryz.strings_Compare _ _ _)))
    go_wp2_with fail
    go_ret
    exact⟨qL HN.out.symm,YI HB.out _⟩
  ·have hen:nm.zg a b=if X.length<Y.length then -1 else if Y.length<X.length then 1 else 0:=by rw[HE.out,nm.cmp_end hk1 hkx hky (by omega)]
   by_cases h1:X.length<Y.length
   ·rw[if_pos h1]at hen
    have HN:=Lib.hid hen
    clear hen
    by_cases hx1:k≤X.length
    ·have:¬k≤Y.length:=by omega
     go_wp2_with fail
     go_ret
     exact⟨qL HN.out.symm,HB.out⟩
    ·go_wp2_with fail
     go_ret
     exact⟨qL HN.out.symm,HB.out⟩
   ·rw[if_neg h1]at hen
    by_cases h2:Y.length<X.length
    ·rw[if_pos h2]at hen
     have HN:=Lib.hid hen
     clear hen
     by_cases hx1:k≤X.length
     ·have:¬k≤Y.length:=by omega
      go_wp2_with fail
      go_ret
      exact⟨qL HN.out.symm,HB.out⟩
     ·go_wp2_with fail
      go_ret
      exact⟨qL HN.out.symm,HB.out⟩
    ·rw[if_neg h2]at hen
     have HN:=Lib.hid hen
     clear hen
     by_cases hx1:k≤X.length
     ·have:¬k≤Y.length:=by omega
      go_wp2_with fail
      go_ret
      exact⟨qL HN.out.symm,HB.out⟩
     ·go_wp2_with fail
      go_ret
      exact⟨qL HN.out.symm,HB.out⟩
theorem compare_any (a b:ByteArray)(ha:a.size≤140737488355328)(hb:b.size≤140737488355328)(w:World):Calls Tryz.prog 128 #[.string a,.string b] w fun e W'=>e= .returned (.int .i64 (nm.zg a b))∧Below w.heap.size w W':=by
 by_cases h:nm.qj a=true∧nm.qj b=true
 ·exact compare_yes a b h.1 h.2 w
 ·exact compare_no a b ha hb h w
end Go.Proofs.YtpcmilhjpmlbpaaGreatDoor
namespace Go.Proofs.YtpcmilhjpmlbpaaGreatDoor.nm
def nameOf (ls:List (List UInt8)):ByteArray:=⟨(zQ ls).toArray⟩
def je (ls:List (List UInt8)):List (List UInt8):=ls.map (·.map QV)
theorem rows_nameOf {s:ByteArray}{ls:List (List UInt8)}(h:rows s=some ls):s=nameOf ls:=ZU (zS h).2.2.1
theorem Vy {ls:List (List UInt8)}(ho:QA ls)(hl:(zQ ls).length≤255):rows (nameOf ls)=some ls:=rows_put ho hl
theorem Zd {s:ByteArray}{ls:List (List UInt8)}(h:rows s=some ls):(zQ ls).length=s.size:=by
 rw[← (zS h).2.2.1];exact Array.length_toList
theorem rowOk_drop {ls:List (List UInt8)}(h:QA ls)(j:Nat):QA (ls.drop j):=fun l hl=>h l (List.mem_of_mem_drop hl)
theorem lowB_small {c:UInt8}(h:c.toNat<65):QV c=c:=Kt (by omega)
theorem putL_low:∀(ls:List (List UInt8)),QA ls→(zQ ls).map QV=zQ (je ls):=by
 intro ls
 induction ls with
 | nil=>intro _;rfl
 | cons l ls ih=>
   intro h
   obtain⟨h0,h1⟩:=h l (by simp)
   rw[zQ,List.map_cons,List.map_append,ih (fun x hx=>h x (by simp[hx]))]
   show _=zQ (l.map QV :: je ls)
   rw[zQ,List.length_map,lowB_small]
   rw[UInt8.toNat_ofNat']
   omega
theorem Qc {ls:List (List UInt8)}(h:QA ls):QA (je ls):=fun l hl=>by
 obtain⟨x,hx,rfl⟩:=List.mem_map.1 hl
 simpa using h x hx
theorem xW {ls:List (List UInt8)}(h:QA ls):(zQ (je ls)).length=(zQ ls).length:=by rw[← putL_low ls h,List.length_map]
theorem Yw {s:ByteArray}{ls:List (List UInt8)}(h:rows s=some ls):j5 s=nameOf (je ls):=by
 obtain⟨_,h2,h3,_⟩:=zS h
 apply ZU
 show s.data.toList.map QV=zQ (je ls)
 rw[h3,putL_low ls h2]
theorem Kh {s:ByteArray}{ls:List (List UInt8)}(h:rows s=some ls):rows (j5 s)=some (je ls):=by
 obtain⟨h1,h2,h3,_⟩:=zS h
 rw[Yw h]
 exact Vy (Qc h2) (by rw[xW h2,Zd h];exact h1)
theorem uN {s:ByteArray}{ls:List (List UInt8)}(h:rows s=some ls):qw s=nameOf (je ls):=by
 unfold qw
 rw[yX,h,if_pos (show(some ls).isSome=true from rfl),Yw h]
theorem vS {s:ByteArray}{ls:List (List UInt8)}(h:rows s=some ls):rows (qw s)=some (je ls):=by
 rw[uN h,← Yw h,Kh h]
theorem yL {s:ByteArray}(h:qj s=true):∃ls,rows s=some ls:=by
 rw[yX]at h
 exact Option.isSome_iff_exists.1 h
theorem Qx {s:ByteArray}{ls:List (List UInt8)}(h:rows s=some ls):qj s=true:=by rw[yX,h];rfl
theorem xD {s:ByteArray}{ls:List (List UInt8)}(h:rows s=some ls):qG s=ls.length:=by rw[xE,h]
theorem Xi {a b:List (List UInt8)}(ha:QA a)(hb:QA b)(hl:(zQ a).length≤255)(h:nameOf a=nameOf b):a=b:=by
 have h1:zQ a=zQ b:=by
  have:=congrArg (fun s:ByteArray=>s.data.toList) h
  simpa[nameOf] using this
 have h2:=Vy ha hl
 rw[h,Vy hb (by rw[← h1];exact hl)]at h2
 exact(Option.some.inj h2).symm
theorem kH {s:ByteArray}{ls:List (List UInt8)}(h:rows s=some ls){k:Int}(h0:0≤k)(h1:k≤ls.length):
 zG s k=nameOf (ls.drop (ls.length-k.toNat))∧rows (zG s k)=some (ls.drop (ls.length-k.toNat)):=by
 obtain⟨a1,a2,a3,_⟩:=zS h
 have e:zG s k=nameOf (ls.drop (ls.length-k.toNat)):=by rw[Jy,h];simp only;rw[if_pos ⟨h0,h1⟩];rfl
 refine⟨e,?_⟩
 rw[e]
 refine Vy (rowOk_drop a2 _) ?_
 have:=(putL_drop ls (ls.length-k.toNat) (by omega)).2
 have:=Zd h
 omega
theorem YT {s:ByteArray}{ls:List (List UInt8)}(h:rows s=some ls):zG s ls.length=s:=by
 rw[(kH h (by omega) (by omega)).1,rows_nameOf h]
 simp
theorem count_tail {s:ByteArray}{ls:List (List UInt8)}(h:rows s=some ls){k:Int}(h0:0≤k)(h1:k≤ls.length):qG (zG s k)=k:=by
 rw[xD (kH h h0 h1).2,List.length_drop];omega
theorem UM {s:ByteArray}{ls:List (List UInt8)}(h:rows s=some ls){k:Int}(h0:1≤k)(h1:k≤ls.length):Km (zG s k)=zG s (k-1):=by
 unfold Km
 have h2:=(kH h (by omega:0≤k) h1).2
 rw[count_tail h (by omega) h1]
 have hl:(ls.drop (ls.length-k.toNat)).length=k.toNat:=by rw[List.length_drop];omega
 rw[(kH h2 (by omega) (by rw[hl];omega)).1,(kH h (by omega) (by omega)).1,List.drop_drop,hl]
 congr 2
 omega
theorem JO {a b:ByteArray}{x y:List (List UInt8)}(ha:rows a=some x)(hb:rows b=some y):qF a b=decide (je x=je y):=by
 unfold qF
 rw[Qx ha,Qx hb,Bool.true_and,Bool.true_and,Yw ha,Yw hb]
 obtain⟨a1,a2,_,_⟩:=zS ha
 obtain⟨b1,b2,_,_⟩:=zS hb
 by_cases h:je x=je y
 ·rw[h,decide_eq_true rfl]
  exact str_eq.2 rfl
 ·rw[decide_eq_false h]
  refine str_ne (fun e=>h (Xi (Qc a2) (Qc b2) (by rw[xW a2,Zd ha];exact a1) e))
theorem U2 {a b:ByteArray}(h:qF a b=true):qj a=true∧qj b=true:=by
 unfold qF at h
 simp only[Bool.and_eq_true]at h
 exact⟨h.1.1,h.1.2⟩
theorem lowR_drop (ls:List (List UInt8))(j:Nat):je (ls.drop j)=(je ls).drop j:=by unfold je;rw[List.map_drop]
theorem QG {a z:ByteArray}{x y:List (List UInt8)}(ha:rows a=some x)(hz:rows z=some y):zx a z=true↔y.length≤x.length∧(je x).drop (x.length-y.length)=je y:=by
 unfold zx
 rw[xD hz,decide_eq_true (by omega),Bool.true_and]
 by_cases hl:y.length≤x.length
 ·have h2:=(kH ha (k:=y.length) (by omega) (by omega)).2
  rw[JO h2 hz,decide_eq_true_eq,lowR_drop]
  simp[hl]
 ·have hn:zG a (y.length:Int)=ByteArray.empty:=by
   rw[Jy,ha];simp only;rw[if_neg (by omega)]
  rw[hn]
  have:qF ByteArray.empty z=false:=rfl
  rw[this]
  simp;omega
theorem fold_size (s:ByteArray):(qw s).size≤255:=by
 unfold qw
 split
 ·rename_i h
  have:(j5 s).size=s.size:=Uj s
  rw[this]
  exact qQ h
 ·decide
end Go.Proofs.YtpcmilhjpmlbpaaGreatDoor.nm
