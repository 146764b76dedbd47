import Derived.Test.YtdjjemajfphjaaaGreatQNameIt
import Derived.Test.YtdjjemajfphjaaaGreatQNameA
import Derived.LoopNIn
import Derived.Maps.AppendAt
set_option maxRecDepth 100000
set_option maxHeartbeats 4000000
namespace Go.Proofs.YtdjjemajfphjaaaGreat
open Go.RowKit Go.Shelf nm
theorem qH {a b:Int}(h:a=b):Ending.returned (.int .i64 a)= .returned (.int .i64 b):=by rw[h]
theorem YZ (n:Int)(d:ByteArray)(w:World):Calls Tryz.prog 210 #[.int .i64 n,.string d] w fun e W'=>e= .returned (.int .i64 (dt.xA n d))∧w=W':=by
 by_cases h:(d.size:Int)<n
 ·go_enter Tryz.func210,Tryz.ntmps210
  go_wp2
  go_ret
  exact⟨qH (by rw[dt.xA,if_pos h]),rfl⟩
 ·go_enter Tryz.func210,Tryz.ntmps210
  go_wp2
  go_ret
  exact⟨qH (by rw[dt.xA,if_neg (by omega)]),rfl⟩
theorem ip4_take (d:ByteArray)(w:World):Calls Tryz.prog 213 #[.agg #[],.string d] w fun e W'=>e= .returned (.int .i64 (dt.xA 4 d))∧Below w.heap.size w W':=by
 have hB:=(Below.refl _ w).alloc (Nat.le_refl _) (.cells #[] 185)
 go_enter Tryz.func213,Tryz.ntmps213
 go_wp2_with (go_at_call 210;refine(YZ _ _ _).mono ?_;rintro e w1 ⟨rfl,rfl⟩)
 go_ret
 exact⟨rfl,hB⟩
theorem ip6_take (d:ByteArray)(w:World):Calls Tryz.prog 222 #[.agg #[],.string d] w fun e W'=>e= .returned (.int .i64 (dt.xA 16 d))∧Below w.heap.size w W':=by
 have hB:=(Below.refl _ w).alloc (Nat.le_refl _) (.cells #[] 188)
 go_enter Tryz.func222,Tryz.ntmps222
 go_wp2_with (go_at_call 210;refine(YZ _ _ _).mono ?_;rintro e w1 ⟨rfl,rfl⟩)
 go_ret
 exact⟨rfl,hB⟩
theorem some_any (d:ByteArray)(w:World):Calls Tryz.prog 226 #[.string d] w fun e W'=>e= .returned (.int .i64 (dt.xS d))∧w=W':=by
 by_cases h:d.size=0
 ·have b0:=yg h
  have H:=Lib.hid h
  clear h
  go_enter Tryz.func226,Tryz.ntmps226
  go_wp2
  go_ret
  exact⟨qH (by rw[dt.xS,if_pos H.out]),rfl⟩
 ·have b0:=yF h
  go_enter Tryz.func226,Tryz.ntmps226
  go_wp2
  go_ret
  exact⟨qH (by rw[dt.xS,if_neg h]),rfl⟩
theorem hexes_take (d:ByteArray)(w:World):Calls Tryz.prog 225 #[.agg #[],.string d] w fun e W'=>e= .returned (.int .i64 (dt.xS d))∧Below w.heap.size w W':=by
 have hB:=(Below.refl _ w).alloc (Nat.le_refl _) (.cells #[] 189)
 go_enter Tryz.func225,Tryz.ntmps225
 go_wp2_with (go_at_call 226;refine(some_any _ _).mono ?_;rintro e w1 ⟨rfl,rfl⟩)
 go_ret
 exact⟨rfl,hB⟩
theorem b64_take (d:ByteArray)(w:World):Calls Tryz.prog 233 #[.agg #[],.string d] w fun e W'=>e= .returned (.int .i64 (dt.xS d))∧Below w.heap.size w W':=by
 have hB:=(Below.refl _ w).alloc (Nat.le_refl _) (.cells #[] 191)
 go_enter Tryz.func233,Tryz.ntmps233
 go_wp2_with (go_at_call 226;refine(some_any _ _).mono ?_;rintro e w1 ⟨rfl,rfl⟩)
 go_ret
 exact⟨rfl,hB⟩
theorem tail_take (d:ByteArray)(w:World):Calls Tryz.prog 246 #[.agg #[],.string d] w fun e W'=>e= .returned (.int .i64 d.size)∧Below w.heap.size w W':=by
 have hB:=(Below.refl _ w).alloc (Nat.le_refl _) (.cells #[] 195)
 go_enter Tryz.func246,Tryz.ntmps246
 go_wp2
 go_ret
 exact⟨rfl,hB⟩
theorem Zy (d:ByteArray)(w:World):Calls Tryz.prog 216 #[.agg #[],.string d] w fun e W'=>e= .returned (.int .i64 (dt.yO d))∧Below w.heap.size w W':=by
 have hB:=(Below.refl _ w).alloc (Nat.le_refl _) (.cells #[] 186)
 by_cases h:d.size=0
 ·have b0:=yg h
  have H:=Lib.hid h
  clear h
  go_enter Tryz.func216,Tryz.ntmps216
  go_wp2
  go_ret
  exact⟨qH (by rw[dt.yO,if_pos H.out]),hB⟩
 ·have b0:=yF h
  have hp:0<d.size:=by omega
  have hs:=zF hp
  have VO:(d[0].toNat:Int)<256:=by have:=UInt8.toNat_lt d[0];omega
  have HS:=Lib.hid hs
  clear hs
  by_cases hl:(d.size:Int)≤d[0].toNat
  ·go_enter Tryz.func216,Tryz.ntmps216
   go_wp2
   go_ret
   exact⟨qH (by rw[dt.yO,if_neg h,HS.out,if_pos (by omega)]),hB⟩
  ·go_enter Tryz.func216,Tryz.ntmps216
   go_wp2
   go_ret
   exact⟨qH (by rw[dt.yO,if_neg h,HS.out,if_neg (by omega)]),hB⟩
theorem salt_take (d:ByteArray)(w:World):Calls Tryz.prog 240 #[.agg #[],.string d] w fun e W'=>e= .returned (.int .i64 (dt.yO d))∧Below w.heap.size w W':=by
 have hB:=(Below.refl _ w).alloc (Nat.le_refl _) (.cells #[] 193)
 go_enter Tryz.func240,Tryz.ntmps240
 go_wp2_with (go_at_call 216;refine(Zy _ _).mono ?_;rintro e w1 ⟨rfl,hB1⟩)
 go_ret
 exact⟨rfl,hB.trans (hB1.mono (by simp))⟩
theorem hash_take (d:ByteArray)(w:World):Calls Tryz.prog 243 #[.agg #[],.string d] w fun e W'=>e= .returned (.int .i64 (dt.ZN d))∧Below w.heap.size w W':=by
 have hB:=(Below.refl _ w).alloc (Nat.le_refl _) (.cells #[] 194)
 by_cases h:d.size=0
 ·have b0:=yg h
  have H:=Lib.hid h
  clear h
  go_enter Tryz.func243,Tryz.ntmps243
  go_wp2
  go_ret
  exact⟨qH (by rw[dt.ZN,if_pos H.out]),hB⟩
 ·have b0:=yF h
  have hp:0<d.size:=by omega
  have hs:=zF hp
  have HS:=Lib.hid hs
  clear hs
  by_cases hl:d[0].toNat=0
  ·have b1:((d[0].toNat:Int) == 0)=true:=by rw[beq_iff_eq];omega
   have HL:=Lib.hid hl
   clear hl
   go_enter Tryz.func243,Tryz.ntmps243
   go_wp2
   go_ret
   exact⟨qH (by rw[dt.ZN,if_neg h,HS.out,if_pos HL.out]),hB⟩
  ·have b1:((d[0].toNat:Int) == 0)=false:=by rw[beq_eq_false_iff_ne];omega
   go_enter Tryz.func243,Tryz.ntmps243
   go_wp2_with (go_at_call 216;refine(Zy _ _).mono ?_;rintro e w1 ⟨rfl,hB1⟩)
   go_ret
   exact⟨qH (by rw[dt.ZN,if_neg h,HS.out,if_neg hl]),hB.trans (hB1.mono (by simp))⟩
theorem texts_take (d:ByteArray)(hd:d.size≤65535)(w:World):Calls Tryz.prog 219 #[.agg #[],.string d] w fun e W'=>e= .returned (.int .i64 (dt.QE d))∧Below w.heap.size w W':=by
 have hB:=Lib.hid ((Below.refl _ w).alloc (Nat.le_refl _) (.cells #[] 187))
 go_enter Tryz.func219,Tryz.ntmps219
 go_wp2
 go_loopw [5,6] (fun i _ wr=>∃k f:Nat,k≤d.size∧d.size<k+f∧i= .int .i64 k∧dt.QE d=dt.jY d f k∧Below w.heap.size w wr) (fun i _ _=>d.size-(intOf i).toNat)
 case atStart=>exact⟨0,d.size+1,by omega,by omega,rfl,rfl,hB.out⟩
 case round=>
  obtain⟨k,f,hk,hf,rfl,he,hb⟩:=hrel
  obtain⟨f,rfl⟩:∃g,f=g+1:=⟨f-1,by omega⟩
  have HE:=Lib.hid he;have HB:=Lib.hid hb
  clear he hb
  by_cases hlt:k<d.size
  ·rcases dt.Q5 (d.extract k d.size) with hn | ⟨hn1,hn2,hn3⟩
   ·have hn':dt.yO (d.extract k d.size)<0:=by omega
    have hfin:dt.QE d= -1:=by rw[HE.out,dt.Vo hlt hn']
    have HN:=Lib.hid hn;have HF:=Lib.hid hfin
    clear hn hfin
    go_wp2_with (go_at_call 216;refine(Zy _ _).mono ?_;rintro e w1 ⟨rfl,hB1⟩)
    go_ret
    exact⟨qH HF.out.symm,HB.out.trans (hB1.mono HB.out.size)⟩
   ·rw[dt.size_extract d hk]at hn2
    have hfin:dt.QE d=dt.jY d f (k+(dt.yO (d.extract k d.size)).toNat):=by rw[HE.out,dt.Kw hlt (by omega)]
    have HF:=Lib.hid hfin
    clear hfin
    go_wp2_with (go_at_call 216;refine(Zy _ _).mono ?_;rintro e w1 ⟨rfl,hB1⟩)
    go_roundw
    case rel=>exact⟨k+(dt.yO (d.extract k d.size)).toNat,f,by omega,by omega,by rw[Int.natCast_add,Int.toNat_of_nonneg (by omega)],HF.out,HB.out.trans (hB1.mono HB.out.size)⟩
    case measure=>simp[intOf];omega
  ·have hke:k=d.size:=by omega
   have hfin:dt.QE d=if k=0 then -1 else(k:Int):=by rw[HE.out,dt.Kv (by omega)]
   have HF:=Lib.hid hfin
   clear hfin
   by_cases h0:k=0
   ·have b0:((k:Int) == 0)=true:=by rw[beq_iff_eq];omega
    have H0:=Lib.hid h0
    clear hke h0
    go_wp2
    go_ret
    exact⟨qH (by rw[HF.out,if_pos H0.out]),HB.out⟩
   ·have b0:((k:Int) == 0)=false:=by rw[beq_eq_false_iff_ne];omega
    clear hke
    go_wp2
    go_ret
    exact⟨qH (by rw[HF.out,if_neg h0]),HB.out⟩
theorem host_take (d:ByteArray)(hd:d.size≤65535)(w:World):Calls Tryz.prog 207 #[.agg #[],.string d] w fun e W'=>e= .returned (.int .i64 (dt.Qp d))∧Below w.heap.size w W':=by
 have hB:=Lib.hid ((Below.refl _ w).alloc (Nat.le_refl _) (.cells #[] 161))
 go_enter Tryz.func207,Tryz.ntmps207
 go_wp2
 go_loopw [5] (fun i wr=>∃k f:Nat,k≤d.size+256∧d.size<k+f∧i= .int .i64 k∧dt.xO d=dt.Zl d f k∧Below w.heap.size w wr) (fun i _=>d.size+256-(intOf i).toNat)
 case atStart=>exact⟨0,d.size+1,by omega,by omega,rfl,rfl,hB.out⟩
 case round=>
  obtain⟨k,f,hk,hf,rfl,he,hb⟩:=hrel
  have HE:=Lib.hid he;have HB:=Lib.hid hb
  clear he hb
  by_cases hlt:k<d.size
  ·obtain⟨f,rfl⟩:∃g,f=g+1:=⟨f-1,by omega⟩
   have hsz:=zF hlt
   have VO:(d[k].toNat:Int)<256:=by have:=UInt8.toNat_lt d[k];omega
   have hge:(0:Int)≤d[k].toNat:=by omega
   by_cases hz:0<d[k].toNat
   ·have hz':(0:Int)<d[k].toNat:=by omega
    have hfin:dt.xO d=dt.Zl d f (k+1+d[k].toNat):=by rw[HE.out,dt.VB hlt (by omega),hsz]
    have HF:=Lib.hid hfin
    clear hfin hsz
    go_wp2
    go_roundw
    case rel=>exact⟨k+1+d[k].toNat,f,by omega,by omega,by go_num,HF.out,HB.out⟩
    case measure=>simp[intOf];omega
   ·have hz':¬(0:Int)<d[k].toNat:=by omega
    have hfin:dt.xO d=k:=by rw[HE.out,dt.Y7 (by omega)]
    have hres:dt.Qp d=if ql (d.extract 0 (k+1))=true then(k:Int)+1 else -1:=by rw[dt.Qp,hfin,if_neg (by omega)]
    have HR:=Lib.hid hres
    clear hfin hsz hres
    cases hc:ql (d.extract 0 (k+1))
    ·have HC:=Lib.hid hc
     clear hc
     go_wp2_with (go_at_call 55;refine(zz _ _).mono ?_;rintro e w1 ⟨rfl,hB1⟩;rw[HC.out,Yx])
     go_ret
     exact⟨qH (by rw[HR.out,HC.out];rfl),HB.out.trans (hB1.mono HB.out.size)⟩
    ·have HC:=Lib.hid hc
     clear hc
     go_wp2_with (go_at_call 55;refine(zz _ _).mono ?_;rintro e w1 ⟨rfl,hB1⟩;rw[HC.out,vQ])
     go_ret
     exact⟨qH (by rw[HR.out,HC.out];rfl),HB.out.trans (hB1.mono HB.out.size)⟩
  ·have hfin:dt.xO d=k:=by rw[HE.out,dt.Y7 (by omega)]
   have hres:dt.Qp d= -1:=by rw[dt.Qp,hfin,if_pos (by omega)]
   have HR:=Lib.hid hres
   clear hfin hres
   go_wp2
   go_ret
   exact⟨qH HR.out.symm,HB.out⟩
end Go.Proofs.YtdjjemajfphjaaaGreat
namespace Go.Proofs.YtdjjemajfphjaaaGreat
open Go.RowKit Go.Shelf
namespace dt
inductive Fld where
 | num (n:Int) | ip4 | ip6 | host | text | texts | tail | Y8 | b64 | kind | kinds | KG | hash
 deriving DecidableEq
def uq (t:Int):Option (List Fld):=
 if t=1 then some [.ip4] else
 if t=2 then some [.host] else
 if t=5 then some [.host] else
 if t=6 then some [.host,.host,.num 4,.num 4,.num 4,.num 4,.num 4] else
 if t=12 then some [.host] else
 if t=13 then some [.text,.text] else
 if t=15 then some [.num 2,.host] else
 if t=16 then some [.texts] else
 if t=28 then some [.ip6] else
 if t=33 then some [.num 2,.num 2,.num 2,.host] else
 if t=35 then some [.num 2,.num 2,.text,.text,.text,.host] else
 if t=39 then some [.host] else
 if t=43 then some [.num 2,.num 1,.num 1,.Y8] else
 if t=46 then some [.kind,.num 1,.num 1,.num 4,.num 4,.num 4,.num 2,.host,.b64] else
 if t=47 then some [.host,.kinds] else
 if t=48 then some [.num 2,.num 1,.num 1,.b64] else
 if t=50 then some [.num 1,.num 1,.num 2,.KG,.hash,.kinds] else
 if t=51 then some [.num 1,.num 1,.num 2,.KG] else
 if t=257 then some [.num 1,.text,.tail] else
 none
theorem formF_none {t:Int}(h1:t≠1)(h2:t≠2)(h5:t≠5)(h6:t≠6)(h12:t≠12)(h13:t≠13)(h15:t≠15)(h16:t≠16)(h28:t≠28)(h33:t≠33)(h35:t≠35)(h39:t≠39)(h43:t≠43)(h46:t≠46)(h47:t≠47)(h48:t≠48)(h50:t≠50)(h51:t≠51)(QW:t≠257):uq t=none:=by
 unfold uq
 rw[if_neg h1,if_neg h2,if_neg h5,if_neg h6,if_neg h12,if_neg h13,if_neg h15,if_neg h16,if_neg h28,if_neg h33,if_neg h35,if_neg h39,if_neg h43,if_neg h46,if_neg h47,if_neg h48,if_neg h50,if_neg h51,if_neg QW]
end dt
open dt (Fld)
def tyF:Fld→TypeId
 | .num _=>184
 | .ip4=>185
 | .ip6=>188
 | .host=>161
 | .text=>186
 | .texts=>187
 | .tail=>195
 | .Y8=>189
 | .b64=>191
 | .kind=>190
 | .kinds=>192
 | .KG=>193
 | .hash=>194
def recvF:Fld→Value
 | .num n=>.int .i64 n
 | _=>.agg #[]
@[reducible] def encF (f:Fld):Value:=.iface (tyF f) (recvF f)
def kG (fs:List Fld)(w:World)(e:Ending)(w':World):Prop:=
 e= .returned (.tuple #[.slice (some ⟨w.heap.size,0,none⟩) fs.length fs.length,.bool true])∧w'=w.alloc (.cells (fs.map encF).toArray 159)
def Qe (t:Int)(w:World)(e:Ending)(w':World):Prop:=
 match dt.uq t with
 | some fs=>kG fs w e w'
 | none=>e= .returned (.tuple #[.slice none 0 0,.bool false])∧w'=w
theorem form_1 (w:World):Calls Tryz.prog 129 #[.int .i64 1] w fun e w'=>kG [.ip4] w e w':=by
 go_enter Tryz.func129,Tryz.ntmps129
 go_wp2
 go_ret2
 exact⟨rfl,rfl⟩
theorem form_2 (w:World):Calls Tryz.prog 129 #[.int .i64 2] w fun e w'=>kG [.host] w e w':=by
 go_enter Tryz.func129,Tryz.ntmps129
 go_wp2
 go_ret2
 exact⟨rfl,rfl⟩
theorem form_5 (w:World):Calls Tryz.prog 129 #[.int .i64 5] w fun e w'=>kG [.host] w e w':=by
 go_enter Tryz.func129,Tryz.ntmps129
 go_wp2
 go_ret2
 exact⟨rfl,rfl⟩
theorem form_6 (w:World):Calls Tryz.prog 129 #[.int .i64 6] w fun e w'=>kG [.host,.host,.num 4,.num 4,.num 4,.num 4,.num 4] w e w':=by
 go_enter Tryz.func129,Tryz.ntmps129
 go_wp2
 go_ret2
 exact⟨rfl,rfl⟩
theorem form_12 (w:World):Calls Tryz.prog 129 #[.int .i64 12] w fun e w'=>kG [.host] w e w':=by
 go_enter Tryz.func129,Tryz.ntmps129
 go_wp2
 go_ret2
 exact⟨rfl,rfl⟩
theorem form_13 (w:World):Calls Tryz.prog 129 #[.int .i64 13] w fun e w'=>kG [.text,.text] w e w':=by
 go_enter Tryz.func129,Tryz.ntmps129
 go_wp2
 go_ret2
 exact⟨rfl,rfl⟩
theorem form_15 (w:World):Calls Tryz.prog 129 #[.int .i64 15] w fun e w'=>kG [.num 2,.host] w e w':=by
 go_enter Tryz.func129,Tryz.ntmps129
 go_wp2
 go_ret2
 exact⟨rfl,rfl⟩
theorem form_16 (w:World):Calls Tryz.prog 129 #[.int .i64 16] w fun e w'=>kG [.texts] w e w':=by
 go_enter Tryz.func129,Tryz.ntmps129
 go_wp2
 go_ret2
 exact⟨rfl,rfl⟩
theorem form_28 (w:World):Calls Tryz.prog 129 #[.int .i64 28] w fun e w'=>kG [.ip6] w e w':=by
 go_enter Tryz.func129,Tryz.ntmps129
 go_wp2
 go_ret2
 exact⟨rfl,rfl⟩
theorem form_33 (w:World):Calls Tryz.prog 129 #[.int .i64 33] w fun e w'=>kG [.num 2,.num 2,.num 2,.host] w e w':=by
 go_enter Tryz.func129,Tryz.ntmps129
 go_wp2
 go_ret2
 exact⟨rfl,rfl⟩
theorem form_35 (w:World):Calls Tryz.prog 129 #[.int .i64 35] w fun e w'=>kG [.num 2,.num 2,.text,.text,.text,.host] w e w':=by
 go_enter Tryz.func129,Tryz.ntmps129
 go_wp2
 go_ret2
 exact⟨rfl,rfl⟩
theorem form_39 (w:World):Calls Tryz.prog 129 #[.int .i64 39] w fun e w'=>kG [.host] w e w':=by
 go_enter Tryz.func129,Tryz.ntmps129
 go_wp2
 go_ret2
 exact⟨rfl,rfl⟩
theorem form_43 (w:World):Calls Tryz.prog 129 #[.int .i64 43] w fun e w'=>kG [.num 2,.num 1,.num 1,.Y8] w e w':=by
 go_enter Tryz.func129,Tryz.ntmps129
 go_wp2
 go_ret2
 exact⟨rfl,rfl⟩
theorem form_46 (w:World):Calls Tryz.prog 129 #[.int .i64 46] w fun e w'=>kG [.kind,.num 1,.num 1,.num 4,.num 4,.num 4,.num 2,.host,.b64] w e w':=by
 go_enter Tryz.func129,Tryz.ntmps129
 go_wp2
 go_ret2
 exact⟨rfl,rfl⟩
theorem form_47 (w:World):Calls Tryz.prog 129 #[.int .i64 47] w fun e w'=>kG [.host,.kinds] w e w':=by
 go_enter Tryz.func129,Tryz.ntmps129
 go_wp2
 go_ret2
 exact⟨rfl,rfl⟩
theorem form_48 (w:World):Calls Tryz.prog 129 #[.int .i64 48] w fun e w'=>kG [.num 2,.num 1,.num 1,.b64] w e w':=by
 go_enter Tryz.func129,Tryz.ntmps129
 go_wp2
 go_ret2
 exact⟨rfl,rfl⟩
theorem form_50 (w:World):Calls Tryz.prog 129 #[.int .i64 50] w fun e w'=>kG [.num 1,.num 1,.num 2,.KG,.hash,.kinds] w e w':=by
 go_enter Tryz.func129,Tryz.ntmps129
 go_wp2
 go_ret2
 exact⟨rfl,rfl⟩
theorem form_51 (w:World):Calls Tryz.prog 129 #[.int .i64 51] w fun e w'=>kG [.num 1,.num 1,.num 2,.KG] w e w':=by
 go_enter Tryz.func129,Tryz.ntmps129
 go_wp2
 go_ret2
 exact⟨rfl,rfl⟩
theorem form_257 (w:World):Calls Tryz.prog 129 #[.int .i64 257] w fun e w'=>kG [.num 1,.text,.tail] w e w':=by
 go_enter Tryz.func129,Tryz.ntmps129
 go_wp2
 go_ret2
 exact⟨rfl,rfl⟩
theorem form_no (t:Int)(h1:t≠1)(h2:t≠2)(h5:t≠5)(h6:t≠6)(h12:t≠12)(h13:t≠13)(h15:t≠15)(h16:t≠16)(h28:t≠28)(h33:t≠33)(h35:t≠35)(h39:t≠39)(h43:t≠43)(h46:t≠46)(h47:t≠47)(h48:t≠48)(h50:t≠50)(h51:t≠51)(QW:t≠257)(w:World):Calls Tryz.prog 129 #[.int .i64 t] w fun e w'=>e= .returned (.tuple #[.slice none 0 0,.bool false])∧w'=w:=by
 have b1:(t == 1)=false:=by rw[beq_eq_false_iff_ne];exact h1
 have b2:(t == 2)=false:=by rw[beq_eq_false_iff_ne];exact h2
 have b5:(t == 5)=false:=by rw[beq_eq_false_iff_ne];exact h5
 have b6:(t == 6)=false:=by rw[beq_eq_false_iff_ne];exact h6
 have b12:(t == 12)=false:=by rw[beq_eq_false_iff_ne];exact h12
 have b13:(t == 13)=false:=by rw[beq_eq_false_iff_ne];exact h13
 have b15:(t == 15)=false:=by rw[beq_eq_false_iff_ne];exact h15
 have b16:(t == 16)=false:=by rw[beq_eq_false_iff_ne];exact h16
 have b28:(t == 28)=false:=by rw[beq_eq_false_iff_ne];exact h28
 have b33:(t == 33)=false:=by rw[beq_eq_false_iff_ne];exact h33
 have b35:(t == 35)=false:=by rw[beq_eq_false_iff_ne];exact h35
 have b39:(t == 39)=false:=by rw[beq_eq_false_iff_ne];exact h39
 have b43:(t == 43)=false:=by rw[beq_eq_false_iff_ne];exact h43
 have b46:(t == 46)=false:=by rw[beq_eq_false_iff_ne];exact h46
 have b47:(t == 47)=false:=by rw[beq_eq_false_iff_ne];exact h47
 have b48:(t == 48)=false:=by rw[beq_eq_false_iff_ne];exact h48
 have b50:(t == 50)=false:=by rw[beq_eq_false_iff_ne];exact h50
 have b51:(t == 51)=false:=by rw[beq_eq_false_iff_ne];exact h51
 have b257:(t == 257)=false:=by rw[beq_eq_false_iff_ne];exact QW
 clear h1 h2 h5 h6 h12 h13 h15 h16 h28 h33 h35 h39 h43 h46 h47 h48 h50 h51 QW
 go_enter Tryz.func129,Tryz.ntmps129
 go_wp2
 go_ret2
 exact⟨rfl,rfl⟩
theorem ZQ (t:Int)(w:World):Calls Tryz.prog 129 #[.int .i64 t] w fun e w'=>Qe t w e w':=by
 by_cases h1:t=1
 ·subst h1;exact form_1 w
 by_cases h2:t=2
 ·subst h2;exact form_2 w
 by_cases h5:t=5
 ·subst h5;exact form_5 w
 by_cases h6:t=6
 ·subst h6;exact form_6 w
 by_cases h12:t=12
 ·subst h12;exact form_12 w
 by_cases h13:t=13
 ·subst h13;exact form_13 w
 by_cases h15:t=15
 ·subst h15;exact form_15 w
 by_cases h16:t=16
 ·subst h16;exact form_16 w
 by_cases h28:t=28
 ·subst h28;exact form_28 w
 by_cases h33:t=33
 ·subst h33;exact form_33 w
 by_cases h35:t=35
 ·subst h35;exact form_35 w
 by_cases h39:t=39
 ·subst h39;exact form_39 w
 by_cases h43:t=43
 ·subst h43;exact form_43 w
 by_cases h46:t=46
 ·subst h46;exact form_46 w
 by_cases h47:t=47
 ·subst h47;exact form_47 w
 by_cases h48:t=48
 ·subst h48;exact form_48 w
 by_cases h50:t=50
 ·subst h50;exact form_50 w
 by_cases h51:t=51
 ·subst h51;exact form_51 w
 by_cases QW:t=257
 ·subst QW;exact form_257 w
 have hn:=dt.formF_none h1 h2 h5 h6 h12 h13 h15 h16 h28 h33 h35 h39 h43 h46 h47 h48 h50 h51 QW
 refine(form_no t h1 h2 h5 h6 h12 h13 h15 h16 h28 h33 h35 h39 h43 h46 h47 h48 h50 h51 QW w).mono fun e w' h=>?_
 unfold Qe
 rw[hn]
 exact h
end Go.Proofs.YtdjjemajfphjaaaGreat
namespace Go.Proofs.YtdjjemajfphjaaaGreat
open Go.RowKit Go.Shelf nm
theorem XX:(Tryz.prog.info? 3).map (fun i=>(i.zero,i.size,i.bytes))=some (some (.int .i64 0),1,8):=by kernel_rfl
theorem bit_dec (x e:Nat)(hx:x<256):(bits BinOp.and IntKind.u8 ((x:Int) / 2 ^ e) 1 == 1)=decide (x / 2 ^ e % 2=1):=by
 have h1:((x:Int) / 2 ^ e)=((x / 2 ^ e:Nat):Int):=by rw[Int.natCast_ediv,Int.natCast_pow];rfl
 have hlt:x / 2 ^ e<256:=Nat.lt_of_le_of_lt (Nat.div_le_self _ _) hx
 rw[h1]
 generalize x / 2 ^ e=y at *
 have h2:bits BinOp.and IntKind.u8 (y:Int) 1=((y % 2:Nat):Int):=by
  show IntKind.u8.wrap ((BitVec.ofInt 8 (y:Int) &&& BitVec.ofInt 8 1).toNat:Int)=_
  rw[BitVec.toNat_and,BitVec.ofInt_natCast,BitVec.toNat_ofNat,Nat.mod_eq_of_lt (by omega:y<2 ^ 8),show(BitVec.ofInt 8 1).toNat=1 from rfl,Nat.and_one_is_mod,IntKind.wrap_u8]
  omega
 rw[h2]
 by_cases h:y % 2=1
 ·rw[decide_eq_true h,beq_iff_eq];omega
 ·rw[decide_eq_false h,beq_eq_false_iff_ne];omega
theorem Zk {W:World}{base:Nat}{e:TypeId}{size:Nat}{v:Value}{n:Nat}{xs:List Value}(h:W.ownsRow base e size v n xs){j:Nat}(ej:v.ownBlock=some j):base≤j:=by
 rcases h.2 with⟨rfl,_⟩|⟨g,cap,cur,rfl,hbg,_⟩
 ·simp[Value.ownBlock]at ej
 ·obtain rfl:g=j:=by simpa[Value.ownBlock] using ej
  exact hbg
def Vk (d:ByteArray)(w:World)(e:Ending)(w':World):Prop:=
 (∃v:Value,e= .returned (.tuple #[v,.int .i64 (if(dt.yQ d).isSome=true then 0 else 7)]))∧Below w.heap.size w w'
theorem kK {d:ByteArray}{w w':World}(v:Value)(h:dt.yQ d=none)(hb:Below w.heap.size w w'):Vk d w (.returned (.tuple #[v,.int .i64 7])) w':=⟨⟨v,by rw[h];rfl⟩,hb⟩
theorem Zi {d:ByteArray}{w w':World}{l:List Int}(v:Value)(h:dt.yQ d=some l)(hb:Below w.heap.size w w'):Vk d w (.returned (.tuple #[v,.int .i64 0])) w':=⟨⟨v,by rw[h];rfl⟩,hb⟩
theorem row_cell0 {w:World}{g:Nat}{cur:Array Value}{e:TypeId}{a:Value}{l:List Value}{n:Nat}(hg:w.heap[g]? =some (.cells cur e (0,0)))(h:cur.toList.take n=a :: l):w.cell? ⟨g,0,none⟩=some a:=by
 rw[qg hg]
 have h2:=congrArg (·[0]?) h
 simp only[List.getElem?_cons_zero]at h2
 rw[List.getElem?_take]at h2
 split at h2
 ·simpa using h2
 ·cases h2
theorem types_any (d:ByteArray)(hd:d.size≤65535)(w:World):Calls Tryz.prog 237 #[.string d] w fun e W'=>Vk d w e W':=by
 obtain⟨i0,hi,hz0,hz1,hz2⟩:=info_parts XX
 have HI:=Lib.hid hi;have HZ:=Lib.hid hz0;have HZ1:=Lib.hid hz1;have HZ2:=Lib.hid hz2
 clear hi hz0 hz1 hz2
 go_enter Tryz.func237,Tryz.ntmps237
 go_wp2
 go_loopw [0,4,5,6] (fun s v l _ wr=>∃(r:ByteArray) (f:Nat) (last:Int) (acc:List Int),r.size≤d.size∧r.size<f∧-1≤last∧last≤255∧s= .string r∧l= .int .i64 last∧
  dt.yV (d.size+1) d (-1) []=dt.yV f r last acc∧(acc.length+8*r.size≤8*d.size)∧wr.ownsRow w.heap.size 3 1 v acc.length (acc.map (Value.int .i64))∧Below w.heap.size w wr) (fun s _ _ _ _=>match s with | .string r=>r.size | _=>0)
 case atStart=>exact⟨d,d.size+1,-1,[],Nat.le_refl _,by omega,by omega,by omega,rfl,rfl,rfl,by simp,World.ownsRow_nil _ _ _ _,Below.refl _ _⟩
 case round=>
  obtain⟨r,f,last,acc,hr,hf,hl1,hl2,rfl,rfl,he,hn,hrow,hb⟩:=hrel
  obtain⟨f,rfl⟩:∃g,f=g+1:=⟨f-1,by omega⟩
  have HE:=Lib.hid he;have HB:=Lib.hid hb;have HR:=Lib.hid hrow
  clear he hb hrow
  by_cases h0:r.size=0
  ·have b0:=yg h0
   have hgo:dt.yV (d.size+1) d (-1) []=some acc:=by rw[HE.out,dt.Q4 h0]
   have HG:=Lib.hid hgo
   clear hgo h0
   rcases HR.out with⟨hln,⟨rfl,hnil⟩|⟨g,cap,cur,rfl,hbg,hg,hnc,hcm,hcs,htake⟩⟩
   ·have ha:acc= []:=List.eq_nil_of_length_eq_zero hnil
    subst ha
    have hty:dt.yQ d=some []:=by unfold dt.yQ;rw[HG.out];simp
    have HT:=Lib.hid hty
    clear hty hnil
    go_wp2
    go_ret2
    exact Zi _ HT.out HB.out
   ·have HTK:=Lib.hid htake;have HG2:=Lib.hid hg;have HCS:=Lib.hid hcs
    clear htake hg hcs
    cases acc with
    | nil=>
      have hty:dt.yQ d=some []:=by unfold dt.yQ;rw[HG.out];simp
      have HT:=Lib.hid hty
      clear hty
      go_wp2
      go_ret2
      exact Zi _ HT.out HB.out
    | cons a acc=>
      have hc0:wr.cell? ⟨g,0,none⟩=some (.int .i64 a):=row_cell0 HG2.out (by rw[HTK.out];rfl)
      have hpos:(0:Int)<((a :: acc).length:Nat):=by simp
      by_cases h00:a=0
      ·have b1:(a == 0)=true:=by rw[beq_iff_eq];exact h00
       have hty:dt.yQ d=none:=by unfold dt.yQ;rw[HG.out];simp[h00]
       have HT:=Lib.hid hty
       clear hty h00
       go_wp2
       go_ret2
       exact kK _ HT.out HB.out
      ·have b1:(a == 0)=false:=by rw[beq_eq_false_iff_ne];exact h00
       have hty:dt.yQ d=some (a :: acc):=by unfold dt.yQ;rw[HG.out];simp[h00]
       have HT:=Lib.hid hty
       clear hty h00
       go_wp2
       go_ret2
       exact Zi _ HT.out HB.out
  ·have b0:=yF h0
   by_cases hbad:dt.um r last
   ·have hty:dt.yQ d=none:=by unfold dt.yQ;rw[HE.out,dt.xR h0 hbad]
    have HT:=Lib.hid hty
    clear hty
    unfold dt.um at hbad
    by_cases k3:(r.size:Int)<3
    ·clear hbad
     go_wp2
     go_ret2
     exact kK _ HT.out HB.out
    ·have g0:0<r.size:=by omega
     have g1:1<r.size:=by omega
     have s0:=zF g0
     have s1:=zF g1
     have k3':(3:Int)≤r.size:=by omega
     have t6:(r[0].toNat:Int)<256:=by have:=UInt8.toNat_lt r[0];omega
     have t7:(r[1].toNat:Int)<256:=by have:=UInt8.toNat_lt r[1];omega
     have S0:=Lib.hid s0;have S1:=Lib.hid s1
     rw[s1]at hbad
     rw[s0]at hbad
     clear s0 s1
     by_cases k4:(r[0].toNat:Int)≤last
     ·clear hbad
      go_wp2
      go_ret2
      exact kK _ HT.out HB.out
     ·by_cases k5:(r[1].toNat:Int)<1
      ·clear hbad
       go_wp2
       go_ret2
       exact kK _ HT.out HB.out
      ·by_cases k6:32<(r[1].toNat:Int)
       ·clear hbad
        go_wp2
        go_ret2
        exact kK _ HT.out HB.out
       ·by_cases k7:(r.size:Int)<2+(r[1].toNat:Int)
        ·clear hbad
         go_wp2
         go_ret2
         exact kK _ HT.out HB.out
        ·have g2:1+r[1].toNat<r.size:=by omega
         have s2:=zF g2
         have b5:((r[1+r[1].toNat].toNat:Int) == 0)=true:=by rw[beq_iff_eq];omega
         clear hbad s2
         go_wp2
         go_ret2
         exact kK _ HT.out HB.out
   ·have hnext:=dt.Qr (f:=f) (acc:=acc) h0 hbad
    unfold dt.um at hbad
    have g0:0<r.size:=by omega
    have g1:1<r.size:=by omega
    have s0:=zF g0
    have s1:=zF g1
    have g2:1+r[1].toNat<r.size:=by omega
    have s2:=zF g2
    rw[s1]at hbad
    rw[s2,s0]at hbad
    have t0:(3:Int)≤r.size:=by omega
    have t1:last<(r[0].toNat:Int):=by omega
    have t2:(1:Int)≤(r[1].toNat:Int):=by omega
    have t3:(r[1].toNat:Int)≤32:=by omega
    have t4:(2:Int)+(r[1].toNat:Int)≤r.size:=by omega
    have t5:((r[1+r[1].toNat].toNat:Int) == 0)=false:=by rw[beq_eq_false_iff_ne];omega
    have t6:(r[0].toNat:Int)<256:=by have:=UInt8.toNat_lt r[0];omega
    have t8:0≤(r[0].toNat:Int):=by omega
    rw[s1,s0]at hnext
    have HN:=Lib.hid hnext;have S0:=Lib.hid s0;have S1:=Lib.hid s1;have S2:=Lib.hid s2
    clear hnext s0 s1 s2 hbad
    go_wp2
    obtain⟨wo,hwo⟩:∃wo:World,wo=wr:=⟨_,rfl⟩
    subst hwo
    go_loopw [54,4,6] (fun c v _ wi=>∃k:Nat,k≤8*r[1].toNat∧c= .int .i64 k∧wi.ownsRow w.heap.size 3 1 v (acc ++ dt.yE r k).length ((acc ++ dt.yE r k).map (Value.int .i64))∧Below w.heap.size w wi) (fun c _ _ _=>8*r[1].toNat-(intOf c).toNat)
    case atStart=>exact⟨0,by omega,rfl,by simpa[dt.yE] using HR.out,HB.out⟩
    case round=>
     obtain⟨k,hk,rfl,hrow,hb⟩:=hrel
     have hlenk:=dt.blockL_len r k
     have HR2:=Lib.hid hrow;have HB2:=Lib.hid hb
     clear hrow hb
     by_cases hlt:k<8*r[1].toNat
     ·have u1:(k:Int)<8*(r[1].toNat:Int):=by omega
      have g3:2+k / 8<r.size:=by omega
      have g4:(2:Int)+(k:Int) / 8<r.size:=by omega
      have hs3:=zF g3
      have hbd:=bit_dec r[2+k / 8].toNat (7-k % 8) (UInt8.toNat_lt _)
      have hbs:=dt.VI r k
      cases hbit:dt.bitB r k
      ·have hb2:(bits BinOp.and IntKind.u8 ((r[2+k / 8].toNat:Int) / 2 ^ (7-k % 8)) 1 == 1)=false:=by
        rw[hbd,← hs3];exact hbit
       rw[hbit]at hbs
       have hrow':wr.ownsRow w.heap.size 3 1 u4 (acc ++ dt.yE r (k+1)).length ((acc ++ dt.yE r (k+1)).map (Value.int .i64)):=by
        rw[hbs];simpa using HR2.out
       have HRW:=Lib.hid hrow'
       have HS3:=Lib.hid hs3;have HBD:=Lib.hid hbd;have HBS:=Lib.hid hbs;have HBI:=Lib.hid hbit
       clear hs3 hbd hbs hbit hrow'
       go_wp2
       go_roundw
       case rel=>exact⟨k+1,by omega,by go_num,HRW.out,HB2.out⟩
       case measure=>simp[intOf];omega
      ·have hb2:(bits BinOp.and IntKind.u8 ((r[2+k / 8].toNat:Int) / 2 ^ (7-k % 8)) 1 == 1)=true:=by
        rw[hbd,← hs3];exact hbit
       rw[hbit,if_pos rfl]at hbs
       have q1:(acc ++ dt.yE r k).length+1≤maxLen:=by simp only[maxLen,List.length_append];omega
       have q2:((acc ++ dt.yE r k).length+1)*8≤140737488355328:=by simp only[List.length_append];omega
       have Q1:=Lib.hid q1;have Q2:=Lib.hid q2
       have hval:(((qN r 0*256+k:Nat):Int))=(r[0].toNat:Int)*256+k:=by rw[S0.out];omega
       have HV:=Lib.hid hval
       have HS3:=Lib.hid hs3;have HBD:=Lib.hid hbd;have HBS:=Lib.hid hbs;have HBI:=Lib.hid hbit
       clear hs3 hbd hbs hbit q1 q2 hval hlenk
       go_wp2_with (at_builtin;refine wpList_append_own _ rfl _ _ 180 rfl w.heap.size 3 i0 (.int .i64 0) 1 8 Tryz.underlying180 HI.out HZ.out HZ1.out HZ2.out rfl (by decide) _ _ _ rfl (HR2.out.alloc _) ⟨wr.heap.size,0,none⟩ 1 1 [.int .i64 ((r[0].toNat:Int)*256+k)] rfl rfl (cell_one_new _ _ _) (by simp[Value.oneCell']) Q1.out Q2.out (by have:=HB2.out.size;simp;omega) ?_;intro v' w1 hown' hgrow _;have HO:=Lib.hid hown';have HG:=Lib.hid hgrow;clear hown' hgrow)
       go_roundw
       case rel=>
        refine⟨k+1,by omega,by go_num,?_,?_⟩
        ·have h:=HO.out
         rw[HBS.out,HV.out]
         simpa[Nat.add_assoc] using h
        ·refine(HB2.out.alloc HB2.out.size _).grown HG.out (by have:=HB2.out.size;simp;omega) (fun j ej=>?_)
         exact Zk HR2.out ej
       case measure=>simp[intOf];omega
     ·have hke:k=8*r[1].toNat:=by omega
      have HKE:=Lib.hid hke
      clear hke
      have HNX:Hid (dt.yV (d.size+1) d (-1) []=dt.yV f (r.extract (2+r[1].toNat) r.size) (r[0].toNat) (acc ++ dt.yE r k)):=by
       unfold Hid
       rw[HE.out,HN.out,HKE.out]
      have hsx:(r.extract (2+r[1].toNat) r.size).size=r.size-(2+r[1].toNat):=dt.size_extract r (by omega)
      have HSX:=Lib.hid hsx
      clear hsx
      go_wp2
      go_roundw
      case rel=>exact⟨_,f,_,_,by rw[HSX.out];omega,by rw[HSX.out];omega,by omega,by omega,rfl,rfl,HNX.out,by rw[HSX.out,List.length_append];omega,HR2.out,HB2.out⟩
      case measure=>show(r.extract (2+r[1].toNat) r.size).size<r.size;rw[HSX.out];omega
theorem kinds_take (d:ByteArray)(hd:d.size≤65535)(w:World):Calls Tryz.prog 236 #[.agg #[],.string d] w fun e W'=>e= .returned (.int .i64 (dt.QJ d))∧Below w.heap.size w W':=by
 have hB:=Lib.hid ((Below.refl _ w).alloc (Nat.le_refl _) (.cells #[] 192))
 cases hc:(dt.yQ d).isSome
 ·have HC:=Lib.hid hc
  clear hc
  go_enter Tryz.func236,Tryz.ntmps236
  go_wp2_with (go_at_call 237;refine(types_any d hd _).mono ?_;rintro e w1 ⟨⟨v,rfl⟩,hB1⟩;rw[HC.out,if_neg (by simp)])
  go_ret
  exact⟨qH (by rw[dt.QJ,HC.out];rfl),hB.out.trans (hB1.mono hB.out.size)⟩
 ·have HC:=Lib.hid hc
  clear hc
  go_enter Tryz.func236,Tryz.ntmps236
  go_wp2_with (go_at_call 237;refine(types_any d hd _).mono ?_;rintro e w1 ⟨⟨v,rfl⟩,hB1⟩;rw[HC.out,if_pos rfl])
  go_ret
  exact⟨qH (by rw[dt.QJ,HC.out];rfl),hB.out.trans (hB1.mono hB.out.size)⟩
end Go.Proofs.YtdjjemajfphjaaaGreat
namespace Go.Proofs.YtdjjemajfphjaaaGreat
open Go.RowKit Go.Shelf nm
namespace dt
def jP (d:ByteArray):Nat→Nat
 | 0=>0
 | k+1=>jP d k*256+qN d k
theorem Kq (d:ByteArray)(k:Nat):jP d k<256 ^ k:=by
 induction k with
 | zero=>simp[jP]
 | succ k ih=>
   have:qN d k<256:=UInt8.toNat_lt _
   rw[jP,Nat.pow_succ]
   omega
end dt
theorem ofInt_i64 (a:Nat)(ha:a<9223372036854775808):(BitVec.ofInt 64 (a:Int)).toNat=a:=by
 rw[BitVec.ofInt_natCast,BitVec.toNat_ofNat];exact Nat.mod_eq_of_lt (by omega)
theorem or_byte (v b:Nat)(hv:v<1099511627776)(hb:b<256):bits BinOp.or IntKind.i64 ((v:Int)*256) (b:Int)=((v*256+b:Nat):Int):=by
 have h1:((v:Int)*256)=((v*256:Nat):Int):=by omega
 rw[h1]
 show IntKind.i64.wrap ((BitVec.ofInt 64 ((v*256:Nat):Int) ||| BitVec.ofInt 64 (b:Int)).toNat:Int)=_
 have h2:v*256 ||| b=v*256+b:=by
  have:=Nat.two_pow_add_eq_or_of_lt (i:=8) (b:=b) (by omega) v
  rw[show(2:Nat) ^ 8=256 from rfl,Nat.mul_comm]at this
  exact this.symm
 rw[BitVec.toNat_or,ofInt_i64 _ (by omega),ofInt_i64 _ (by omega),h2,IntKind.wrap_i64]
 omega
theorem small_any (d:ByteArray)(h2:d.size≤6)(w:World):Calls Tryz.prog 230 #[.string d] w fun e W'=>e= .returned (.int .i64 (dt.jP d d.size))∧w=W':=by
 go_enter Tryz.func230,Tryz.ntmps230
 go_wp2
 go_loop [7,3,4] (fun c v _=>∃k:Nat,k≤d.size∧c= .int .i64 k∧v= .int .i64 (dt.jP d k)) (fun c _ _=>d.size-(intOf c).toNat)
 case atStart=>exact⟨0,Nat.zero_le _,rfl,rfl⟩
 case round=>
  obtain⟨k,hk,rfl,rfl⟩:=hrel
  by_cases hlt:k<d.size
  ·have hv:dt.jP d k<256 ^ 5:=Nat.lt_of_lt_of_le (dt.Kq d k) (Nat.pow_le_pow_right (by omega) (by omega))
   have hv2:dt.jP d k<1099511627776:=Nat.lt_of_lt_of_le hv (by decide)
   have hv3:(dt.jP d k:Int)<1099511627776:=by omega
   have hs:=zF hlt
   have HS:=Lib.hid hs
   have HV:=Lib.hid hv
   clear hs hv
   have VO:(d[k].toNat:Int)<256:=by have:=UInt8.toNat_lt d[k];omega
   have hor:=or_byte (dt.jP d k) d[k].toNat hv2 (UInt8.toNat_lt _)
   rw[← HS.out]at hor
   have hnx:(((dt.jP d k*256+qN d k:Nat)):Int)=(dt.jP d (k+1):Nat):=rfl
   rw[hnx,HS.out]at hor
   have HOR:=Lib.hid hor
   clear hor hnx
   go_wp2
   go_round
   case rel=>exact⟨k+1,by omega,by go_num,by rw[HOR.out]⟩
   case measure=>simp[intOf];omega
  ·have hke:k=d.size:=by omega
   subst hke
   go_wp2
   go_ret
   exact⟨rfl,rfl⟩
theorem kind_take (d:ByteArray)(w:World):Calls Tryz.prog 229 #[.agg #[],.string d] w fun e W'=>e= .returned (.int .i64 (dt.ZJ d))∧Below w.heap.size w W':=by
 have hB:=Lib.hid ((Below.refl _ w).alloc (Nat.le_refl _) (.cells #[] 190))
 by_cases h:d.size<2
 ·have h':(d.size:Int)<2:=by omega
  go_enter Tryz.func229,Tryz.ntmps229
  go_wp2
  go_ret
  exact⟨qH (by rw[dt.ZJ,if_pos h]),hB.out⟩
 ·have h':(2:Int)≤d.size:=by omega
  have hsx:(d.extract 0 2).size=2:=by rw[ByteArray.size_extract];omega
  have e0:qN (d.extract 0 2) 0=qN d 0:=by
   unfold qN;rw[zM];simp
  have e1:qN (d.extract 0 2) 1=qN d 1:=by
   unfold qN;rw[zM];simp
  have hval:(dt.jP (d.extract 0 2) (d.extract 0 2).size:Int)=(qN d 0:Int)*256+(qN d 1:Int):=by
   rw[hsx];simp[dt.jP,e0,e1]
  have HX:=Lib.hid hsx;have HV:=Lib.hid hval
  clear hsx e0 e1 hval
  by_cases hz:qN d 0=0∧qN d 1=0
  ·have b1:((qN d 0:Int)*256+(qN d 1:Int) == 0)=true:=by rw[beq_iff_eq];omega
   have HZ:=Lib.hid hz
   clear hz
   go_enter Tryz.func229,Tryz.ntmps229
   go_wp2_with (go_at_call 230;refine(small_any _ (by rw[HX.out];omega) _).mono ?_;rintro e w1 ⟨rfl,rfl⟩;rw[HV.out])
   go_ret
   exact⟨qH (by rw[dt.ZJ,if_neg h,if_pos HZ.out]),hB.out⟩
  ·have b1:((qN d 0:Int)*256+(qN d 1:Int) == 0)=false:=by rw[beq_eq_false_iff_ne];omega
   have HZ:=Lib.hid hz
   clear hz
   go_enter Tryz.func229,Tryz.ntmps229
   go_wp2_with (go_at_call 230;refine(small_any _ (by rw[HX.out];omega) _).mono ?_;rintro e w1 ⟨rfl,rfl⟩;rw[HV.out])
   go_ret
   exact⟨qH (by rw[dt.ZJ,if_neg h,if_neg HZ.out]),hB.out⟩
end Go.Proofs.YtdjjemajfphjaaaGreat
