import Derived.Test.YtpcmilhjpmlbpaaGreatDoorProg
import Derived.Test.YtpcmilhjpmlbpaaGreatDoorQNameA
import Derived.Shelf.Strings.Builder1
import Derived.Shelf.Small.Bits
import Derived.Shelf.Small.Strs
import Derived.Shelf.Small.Wraps
import Derived.Shelf.Strings.BuilderF
import Derived.Shelf.Strconv.Itoa0
import Derived.Shelf.LaysM
import Derived.Shelf.Strconv.Clone
import Derived.Shelf.Strings.Prefix
import Derived.Deep.QuietTactic
import Derived.BigQuiet
import Derived.Lib.Bytealg
import Derived.Lib.Strings
set_option maxRecDepth 100000
set_option maxHeartbeats 2000000
namespace Go.Proofs
open Go.Shelf
def Tryz.Xj:Go.Shelf.Ren:=⟨fun | 169=>159 | n=>n,fun | 70=>214 | 9=>9 | 0=>0 | 72=>216 | 37=>122 | 127=>250 | 3=>3 | 5=>5 | n=>n,fun | n=>n⟩
theorem Tryz.lays169:Go.Proofs.Lays.n169 Tryz.prog Tryz.Xj:={
 mixed:=by kernel_rfl
 f169:=Tryz.func159.trans (congrArg some (by kernel_rfl))
 t0:=Tryz.underlying0
 a0:=Tryz.isAgg0
 z0:=Tryz.sizeOf0
 v0:=Tryz.zeroValue0
 t3:=Tryz.underlying3
 a3:=Tryz.isAgg3
 z3:=Tryz.sizeOf3
 v3:=Tryz.zeroValue3
 t9:=Tryz.underlying9
 a9:=Tryz.isAgg9
 z9:=Tryz.sizeOf9
 v9:=Tryz.zeroValue9
 t37:=Tryz.underlying122
 a37:=Tryz.isAgg122
 z37:=Tryz.sizeOf122
 v37:=Tryz.zeroValue122
 t70:=Tryz.underlying214
 a70:=Tryz.isAgg214
 z70:=Tryz.sizeOf214
 v70:=Tryz.zeroValue214
 t72:=Tryz.underlying216
 a72:=Tryz.isAgg216
 z72:=Tryz.sizeOf216
 v72:=Tryz.zeroValue216
 t127:=Tryz.underlying250
 a127:=Tryz.isAgg250
 z127:=Tryz.sizeOf250
 v127:=Tryz.zeroValue250}
theorem Tryz.Vj:Builder.Extra Tryz.prog Tryz.Xj:={
 sizeBuilder:=by kernel_rfl
 liesBuilder:=by kernel_rfl
 t5:=Tryz.underlying5
 a5:=Tryz.isAgg5
 z5:=Tryz.sizeOf5
 v5:=Tryz.zeroValue5
 infoByte:=by kernel_rfl
 cellsByte:=by kernel_rfl
 sizeByte:=by kernel_rfl
 neB5:=by decide}
open Go.RowKit in
theorem Tryz.Builder_String_any (B b:Nat)(l:List UInt8)(w:World)(h:Lib.IsBuilder 216 5 B b (Lib.byteCells l) w)(hBw:B<=w.heap.size):
 Calls Tryz.prog 159 #[.pointer (some ⟨b,0,none⟩)] w λe w'=>e= .returned (.string ⟨l.toArray⟩)/\Below B w w':=Any.Builder_String_any Tryz.lays169 Tryz.Vj B b l w h hBw
def Tryz.lays213_ren:Go.Shelf.Ren:=⟨fun | 213=>172 | 265=>186 | n=>n,fun | 9=>9 | 3=>3 | n=>n,fun | n=>n⟩
def Tryz.lays106_ren:Go.Shelf.Ren:=⟨fun | 106=>130 | 213=>172 | 265=>186 | n=>n,fun | 9=>9 | 3=>3 | n=>n,fun | n=>n⟩
theorem Tryz.lays106:Go.Proofs.Lays.n106 Tryz.prog Tryz.lays106_ren:={
 mixed:=by kernel_rfl
 f106:=Tryz.func130.trans (congrArg some (by kernel_rfl))
 f213:=Tryz.func172.trans (congrArg some (by kernel_rfl))
 f265:=Tryz.func186.trans (congrArg some (by kernel_rfl))
 t3:=Tryz.underlying3
 a3:=Tryz.isAgg3
 z3:=Tryz.sizeOf3
 v3:=Tryz.zeroValue3
 t9:=Tryz.underlying9
 a9:=Tryz.isAgg9
 z9:=Tryz.sizeOf9
 v9:=Tryz.zeroValue9}
open Go.RowKit in
theorem Tryz.strings_Compare (a b:ByteArray)(w:World):
 Calls Tryz.prog 130 #[.string a,.string b] w λe w'=>e= .returned (.int .i64 (Lib.compareBytes a.data.toList b.data.toList))/\w'=w:=Any.strings_Compare Tryz.lays106 a b w
def Tryz.lays215_ren:Go.Shelf.Ren:=⟨fun | 215=>171 | n=>n,fun | 3=>3 | 4=>4 | n=>n,fun | n=>n⟩
def Tryz.lays122_ren:Go.Shelf.Ren:=⟨fun | 122=>129 | 215=>171 | n=>n,fun | 3=>3 | 4=>4 | n=>n,fun | n=>n⟩
theorem Tryz.lays122:Go.Proofs.Lays.n122 Tryz.prog Tryz.lays122_ren:={
 mixed:=by kernel_rfl
 f122:=Tryz.func129.trans (congrArg some (by kernel_rfl))
 f215:=Tryz.func171.trans (congrArg some (by kernel_rfl))
 t3:=Tryz.underlying3
 a3:=Tryz.isAgg3
 z3:=Tryz.sizeOf3
 v3:=Tryz.zeroValue3
 t4:=Tryz.underlying4
 a4:=Tryz.isAgg4
 z4:=Tryz.sizeOf4
 v4:=Tryz.zeroValue4}
open Go.RowKit in
theorem Tryz.cmp_Compare_int (x y:Int)(w:World):
 Calls Tryz.prog 129 #[.int .i64 x,.int .i64 y] w λe w'=>e= .returned (.int .i64 (Lib.compareInt x y))/\w'=w:=Any.cmp_Compare_int Tryz.lays122 x y w
def Tryz.laysM316_ren:Go.Shelf.Ren:=⟨fun | 316=>179 | n=>n,fun | 9=>9 | 3=>3 | 4=>4 | 37=>122 | 0=>0 | 127=>250 | 5=>5 | n=>n,fun | n=>n⟩
theorem Tryz.laysM316:Go.Proofs.LaysM.n316 Tryz.prog Tryz.laysM316_ren:={
 mixed:=by kernel_rfl
 f316:=Tryz.func179.trans (congrArg some (by kernel_rfl))
 t0:=Tryz.underlying0
 a0:=Tryz.isAgg0
 z0:=Tryz.sizeOf0
 v0:=Tryz.zeroValue0
 t3:=Tryz.underlying3
 a3:=Tryz.isAgg3
 z3:=Tryz.sizeOf3
 v3:=Tryz.zeroValue3
 t4:=Tryz.underlying4
 a4:=Tryz.isAgg4
 z4:=Tryz.sizeOf4
 v4:=Tryz.zeroValue4
 t9:=Tryz.underlying9
 a9:=Tryz.isAgg9
 z9:=Tryz.sizeOf9
 v9:=Tryz.zeroValue9
 t37:=Tryz.underlying122
 a37:=Tryz.isAgg122
 z37:=Tryz.sizeOf122
 v37:=Tryz.zeroValue122
 t127:=Tryz.underlying250
 a127:=Tryz.isAgg250
 z127:=Tryz.sizeOf250
 v127:=Tryz.zeroValue250
 t5:=Tryz.underlying5
 a5:=Tryz.isAgg5
 z5:=Tryz.sizeOf5
 v5:=Tryz.zeroValue5
 i0:=by kernel_rfl
 i3:=by kernel_rfl
 i4:=by kernel_rfl
 i5:=by kernel_rfl
 i9:=by kernel_rfl
 i37:=by kernel_rfl
 i127:=by kernel_rfl}
open Go.RowKit in
theorem Tryz.stringslite_Clone (s:ByteArray)(w:World)(hlim:s.size<=281474976710656):
 Calls Tryz.prog 179 #[.string s] w λe w'=>e= .returned (.string s)/\Below w.heap.size w w':=Any.stringslite_Clone Tryz.laysM316 s w hlim
def Tryz.lays206_ren:Go.Shelf.Ren:=⟨fun | 206=>178 | n=>n,fun | 9=>9 | 4=>4 | 3=>3 | n=>n,fun | n=>n⟩
def Tryz.lays99_ren:Go.Shelf.Ren:=⟨fun | 99=>156 | 206=>178 | n=>n,fun | 9=>9 | 4=>4 | 3=>3 | n=>n,fun | n=>n⟩
theorem Tryz.lays99:Go.Proofs.Lays.n99 Tryz.prog Tryz.lays99_ren:={
 mixed:=by kernel_rfl
 f99:=Tryz.func156.trans (congrArg some (by kernel_rfl))
 f206:=Tryz.func178.trans (congrArg some (by kernel_rfl))
 t3:=Tryz.underlying3
 a3:=Tryz.isAgg3
 z3:=Tryz.sizeOf3
 v3:=Tryz.zeroValue3
 t4:=Tryz.underlying4
 a4:=Tryz.isAgg4
 z4:=Tryz.sizeOf4
 v4:=Tryz.zeroValue4
 t9:=Tryz.underlying9
 a9:=Tryz.isAgg9
 z9:=Tryz.sizeOf9
 v9:=Tryz.zeroValue9}
open Go.RowKit Go.Lib in
theorem Tryz.strings_HasPrefix (s p:ByteArray)(w:World):
 Calls Tryz.prog 156 #[.string s,.string p] w λe w'=>e= .returned (.bool (Lib.hasPrefix s.data.toList p.data.toList))/\w'=w:=Any.strings_HasPrefix Tryz.lays99 s p w
end Go.Proofs
namespace Go.Proofs.YtpcmilhjpmlbpaaGreatDoor
open Go.RowKit Go.Shelf nm
theorem qQ {a b:Int}(h:a=b):Ending.returned (.int .i64 a)= .returned (.int .i64 b):=by rw[h]
theorem Jr (n:Int)(d:ByteArray)(w:World):Calls Tryz.prog 228 #[.int .i64 n,.string d] w λe W'=>e= .returned (.int .i64 (dt.xU n d))/\w=W':=by
 by_cases h:(d.size:Int)<n
 ·go_enter Tryz.func228,Tryz.ntmps228
  go_wp2
  go_ret;exact⟨qQ (by rw[dt.xU,if_pos h]),rfl⟩
 ·go_enter Tryz.func228,Tryz.ntmps228
  go_wp2
  go_ret;exact⟨qQ (by rw[dt.xU,if_neg (by omega)]),rfl⟩
theorem ip4_take (d:ByteArray)(w:World):Calls Tryz.prog 231 #[.agg #[],.string d] w λe W'=>e= .returned (.int .i64 (dt.xU 4 d))/\Below w.heap.size w W':=by
 have hB:=(gJ _ w).alloc (gI _) (.cells #[] 239)
 go_enter Tryz.func231,Tryz.ntmps231
 go_wp2_with (go_at_call 228;refine(Jr _ _ _).mono ?_;rintro e w1 ⟨rfl,rfl⟩);go_ret;exact⟨rfl,hB⟩
theorem ip6_take (d:ByteArray)(w:World):Calls Tryz.prog 240 #[.agg #[],.string d] w λe W'=>e= .returned (.int .i64 (dt.xU 16 d))/\Below w.heap.size w W':=by
 have hB:=(gJ _ w).alloc (gI _) (.cells #[] 242)
 go_enter Tryz.func240,Tryz.ntmps240
 go_wp2_with (go_at_call 228;refine(Jr _ _ _).mono ?_;rintro e w1 ⟨rfl,rfl⟩);go_ret;exact⟨rfl,hB⟩
theorem some_any (d:ByteArray)(w:World):Calls Tryz.prog 244 #[.string d] w λe W'=>e= .returned (.int .i64 (dt.Qh d))/\w=W':=by
 by_cases h:d.size=0
 ·have b0:=yR h;have H:=qe h;clear h
  go_enter Tryz.func244,Tryz.ntmps244
  go_wp2
  go_ret;exact⟨qQ (by rw[dt.Qh,if_pos H.out]),rfl⟩
 ·have b0:=jq h
  go_enter Tryz.func244,Tryz.ntmps244
  go_wp2
  go_ret;exact⟨qQ (by rw[dt.Qh,if_neg h]),rfl⟩
theorem hexes_take (d:ByteArray)(w:World):Calls Tryz.prog 243 #[.agg #[],.string d] w λe W'=>e= .returned (.int .i64 (dt.Qh d))/\Below w.heap.size w W':=by
 have hB:=(gJ _ w).alloc (gI _) (.cells #[] 243)
 go_enter Tryz.func243,Tryz.ntmps243
 go_wp2_with (go_at_call 244;refine(some_any _ _).mono ?_;rintro e w1 ⟨rfl,rfl⟩);go_ret;exact⟨rfl,hB⟩
theorem b64_take (d:ByteArray)(w:World):Calls Tryz.prog 251 #[.agg #[],.string d] w λe W'=>e= .returned (.int .i64 (dt.Qh d))/\Below w.heap.size w W':=by
 have hB:=(gJ _ w).alloc (gI _) (.cells #[] 245)
 go_enter Tryz.func251,Tryz.ntmps251
 go_wp2_with (go_at_call 244;refine(some_any _ _).mono ?_;rintro e w1 ⟨rfl,rfl⟩);go_ret;exact⟨rfl,hB⟩
theorem tail_take (d:ByteArray)(w:World):Calls Tryz.prog 264 #[.agg #[],.string d] w λe W'=>e= .returned (.int .i64 d.size)/\Below w.heap.size w W':=by
 have hB:=(gJ _ w).alloc (gI _) (.cells #[] 249)
 go_enter Tryz.func264,Tryz.ntmps264
 go_wp2
 go_ret;exact⟨rfl,hB⟩
theorem Yf (d:ByteArray)(w:World):Calls Tryz.prog 234 #[.agg #[],.string d] w λe W'=>e= .returned (.int .i64 (dt.yZ d))/\Below w.heap.size w W':=by
 have hB:=(gJ _ w).alloc (gI _) (.cells #[] 240);by_cases h:d.size=0
 ·have b0:=yR h;have H:=qe h;clear h
  go_enter Tryz.func234,Tryz.ntmps234
  go_wp2
  go_ret;exact⟨qQ (by rw[dt.yZ,if_pos H.out]),hB⟩
 ·have b0:=jq h;have hp:0<d.size:=by omega
  have hs:=zF hp;have Xz:(d[0].toNat:Int)<256:=by have:=UInt8.toNat_lt d[0];omega
  have HS:=qe hs;clear hs;by_cases hl:(d.size:Int)<=d[0].toNat
  ·go_enter Tryz.func234,Tryz.ntmps234
   go_wp2
   go_ret;exact⟨qQ (by rw[dt.yZ,if_neg h,HS.out,if_pos (by omega)]),hB⟩
  ·go_enter Tryz.func234,Tryz.ntmps234
   go_wp2
   go_ret;exact⟨qQ (by rw[dt.yZ,if_neg h,HS.out,if_neg (by omega)]),hB⟩
theorem salt_take (d:ByteArray)(w:World):Calls Tryz.prog 258 #[.agg #[],.string d] w λe W'=>e= .returned (.int .i64 (dt.yZ d))/\Below w.heap.size w W':=by
 have hB:=(gJ _ w).alloc (gI _) (.cells #[] 247)
 go_enter Tryz.func258,Tryz.ntmps258
 go_wp2_with (go_at_call 234;refine(Yf _ _).mono ?_;rintro e w1 ⟨rfl,hB1⟩);go_ret;exact⟨rfl,hB.trans (hB1.mono (by simp))⟩
theorem hash_take (d:ByteArray)(w:World):Calls Tryz.prog 261 #[.agg #[],.string d] w λe W'=>e= .returned (.int .i64 (dt.Yv d))/\Below w.heap.size w W':=by
 have hB:=(gJ _ w).alloc (gI _) (.cells #[] 248);by_cases h:d.size=0
 ·have b0:=yR h;have H:=qe h;clear h
  go_enter Tryz.func261,Tryz.ntmps261
  go_wp2
  go_ret;exact⟨qQ (by rw[dt.Yv,if_pos H.out]),hB⟩
 ·have b0:=jq h;have hp:0<d.size:=by omega
  have hs:=zF hp;have HS:=qe hs;clear hs;by_cases hl:d[0].toNat=0
  ·have b1:((d[0].toNat:Int) == 0)=true:=by rw[Hz];omega
   have HL:=qe hl;clear hl
   go_enter Tryz.func261,Tryz.ntmps261
   go_wp2
   go_ret;exact⟨qQ (by rw[dt.Yv,if_neg h,HS.out,if_pos HL.out]),hB⟩
  ·have b1:((d[0].toNat:Int) == 0)=false:=by rw[gG];omega
   go_enter Tryz.func261,Tryz.ntmps261
   go_wp2_with (go_at_call 234;refine(Yf _ _).mono ?_;rintro e w1 ⟨rfl,hB1⟩);go_ret;exact⟨qQ (by rw[dt.Yv,if_neg h,HS.out,if_neg hl]),hB.trans (hB1.mono (by simp))⟩
theorem texts_take (d:ByteArray)(hd:d.size<=65535)(w:World):Calls Tryz.prog 237 #[.agg #[],.string d] w λe W'=>e= .returned (.int .i64 (dt.Q6 d))/\Below w.heap.size w W':=by
 have hB:=qe ((gJ _ w).alloc (gI _) (.cells #[] 241))
 go_enter Tryz.func237,Tryz.ntmps237
 go_wp2
 go_loopw [5,6] (λi _ wr=>∃k f:Nat,k<=d.size/\d.size<k+f/\i= .int .i64 k/\dt.Q6 d=dt.jW d f k/\Below w.heap.size w wr) (λi _ _=>d.size-(intOf i).toNat)
 case atStart=>exact⟨0,d.size+1,by omega,by omega,rfl,rfl,hB.out⟩
 case round=>
  obtain⟨k,f,hk,hf,rfl,he,hb⟩:=hrel;obtain⟨f,rfl⟩:∃g,f=g+1:=⟨f-1,by omega⟩;have HE:=qe he;have HB:=qe hb;clear he hb;by_cases hlt:k<d.size
  ·rcases dt.Zy (d.extract k d.size) with hn | ⟨hn1,hn2,hn3⟩
   ·have hn':dt.yZ (d.extract k d.size)<0:=by omega
    have hfin:dt.Q6 d= -1:=by rw[HE.out,dt.V4 hlt hn']
    have HN:=qe hn;have HF:=qe hfin;clear hn hfin;go_wp2_with (go_at_call 234;refine(Yf _ _).mono ?_;rintro e w1 ⟨rfl,hB1⟩);go_ret;exact⟨qQ HF.out.symm,HB.out.trans (hB1.mono HB.out.size)⟩
   ·rw[dt.size_extract d hk]at hn2;have hfin:dt.Q6 d=dt.jW d f (k+(dt.yZ (d.extract k d.size)).toNat):=by rw[HE.out,dt.Uq hlt (by omega)]
    have HF:=qe hfin;clear hfin;go_wp2_with (go_at_call 234;refine(Yf _ _).mono ?_;rintro e w1 ⟨rfl,hB1⟩)
    go_roundw
    case rel=>exact⟨k+(dt.yZ (d.extract k d.size)).toNat,f,by omega,by omega,by rw[Int.natCast_add,Int.toNat_of_nonneg (by omega)],HF.out,HB.out.trans (hB1.mono HB.out.size)⟩
    case measure=>simp[intOf];omega
  ·have hke:k=d.size:=by omega
   have hfin:dt.Q6 d=if k=0 then -1 else(k:Int):=by rw[HE.out,dt.Uo (by omega)]
   have HF:=qe hfin;clear hfin;by_cases h0:k=0
   ·have b0:((k:Int) == 0)=true:=by rw[Hz];omega
    have H0:=qe h0;clear hke h0
    go_wp2
    go_ret;exact⟨qQ (by rw[HF.out,if_pos H0.out]),HB.out⟩
   ·have b0:((k:Int) == 0)=false:=by rw[gG];omega
    clear hke
    go_wp2
    go_ret;exact⟨qQ (by rw[HF.out,if_neg h0]),HB.out⟩
theorem host_take (d:ByteArray)(hd:d.size<=65535)(w:World):Calls Tryz.prog 225 #[.agg #[],.string d] w λe W'=>e= .returned (.int .i64 (dt.QJ d))/\Below w.heap.size w W':=by
 have hB:=qe ((gJ _ w).alloc (gI _) (.cells #[] 220))
 go_enter Tryz.func225,Tryz.ntmps225
 go_wp2
 go_loopw [5] (λi wr=>∃k f:Nat,k<=d.size+256/\d.size<k+f/\i= .int .i64 k/\dt.Qc d=dt.ZP d f k/\Below w.heap.size w wr) (λi _=>d.size+256-(intOf i).toNat)
 case atStart=>exact⟨0,d.size+1,by omega,by omega,rfl,rfl,hB.out⟩
 case round=>
  obtain⟨k,f,hk,hf,rfl,he,hb⟩:=hrel;have HE:=qe he;have HB:=qe hb;clear he hb;by_cases hlt:k<d.size
  ·obtain⟨f,rfl⟩:∃g,f=g+1:=⟨f-1,by omega⟩;have hsz:=zF hlt;have Xz:(d[k].toNat:Int)<256:=by have:=UInt8.toNat_lt d[k];omega
   have hge:(0:Int)<=d[k].toNat:=by omega
   by_cases hz:0<d[k].toNat
   ·have hz':(0:Int)<d[k].toNat:=by omega
    have hfin:dt.Qc d=dt.ZP d f (k+1+d[k].toNat):=by rw[HE.out,dt.Xl hlt (by omega),hsz]
    have HF:=qe hfin;clear hfin hsz
    go_wp2
    go_roundw
    case rel=>exact⟨k+1+d[k].toNat,f,by omega,by omega,by go_num,HF.out,HB.out⟩
    case measure=>simp[intOf];omega
   ·have hz':¬(0:Int)<d[k].toNat:=by omega
    have hfin:dt.Qc d=k:=by rw[HE.out,dt.JA (by omega)]
    have hres:dt.QJ d=if qo (d.extract 0 (k+1))=true then(k:Int)+1 else -1:=by rw[dt.QJ,hfin,if_neg (by omega)]
    have HR:=qe hres;clear hfin hsz hres
    cases hc:qo (d.extract 0 (k+1))
    ·have HC:=qe hc;clear hc;go_wp2_with (go_at_call 47;refine(zy _ _).mono ?_;rintro e w1 ⟨rfl,hB1⟩;rw[HC.out,Yr]);go_ret;exact⟨qQ (by rw[HR.out,HC.out];rfl),HB.out.trans (hB1.mono HB.out.size)⟩
    ·have HC:=qe hc;clear hc;go_wp2_with (go_at_call 47;refine(zy _ _).mono ?_;rintro e w1 ⟨rfl,hB1⟩;rw[HC.out,vR]);go_ret;exact⟨qQ (by rw[HR.out,HC.out];rfl),HB.out.trans (hB1.mono HB.out.size)⟩
  ·have hfin:dt.Qc d=k:=by rw[HE.out,dt.JA (by omega)]
   have hres:dt.QJ d= -1:=by rw[dt.QJ,hfin,if_pos (by omega)]
   have HR:=qe hres;clear hfin hres
   go_wp2
   go_ret;exact⟨qQ HR.out.symm,HB.out⟩
end Go.Proofs.YtpcmilhjpmlbpaaGreatDoor
namespace Go.Proofs.YtpcmilhjpmlbpaaGreatDoor
open Go.RowKit Go.Shelf
namespace dt
inductive Fld where
 | num (n:Int) | ip4 | ip6 | host | text | texts | tail | JC | b64 | kind | kinds | Ux | hash
 deriving DecidableEq
def uo (t:Int):Option (List Fld):=
 if t=1 then some [.ip4] else
 if t=2 then some [.host] else
 if t=5 then some [.host] else
 if t=6 then some [.host,.host,.num 4,.num 4,.num 4,.num 4,.num 4] else
 if t=12 then some [.host] else
 if t=13 then some [.text,.text] else
 if t=15 then some [.num 2,.host] else
 if t=16 then some [.texts] else
 if t=28 then some [.ip6] else
 if t=33 then some [.num 2,.num 2,.num 2,.host] else
 if t=35 then some [.num 2,.num 2,.text,.text,.text,.host] else
 if t=39 then some [.host] else
 if t=43 then some [.num 2,.num 1,.num 1,.JC] else
 if t=46 then some [.kind,.num 1,.num 1,.num 4,.num 4,.num 4,.num 2,.host,.b64] else
 if t=47 then some [.host,.kinds] else
 if t=48 then some [.num 2,.num 1,.num 1,.b64] else
 if t=50 then some [.num 1,.num 1,.num 2,.Ux,.hash,.kinds] else
 if t=51 then some [.num 1,.num 1,.num 2,.Ux] else
 if t=257 then some [.num 1,.text,.tail] else
 none
theorem formF_none {t:Int}(h1:t≠1)(h2:t≠2)(h5:t≠5)(h6:t≠6)(h12:t≠12)(h13:t≠13)(h15:t≠15)(h16:t≠16)(h28:t≠28)(h33:t≠33)(h35:t≠35)(h39:t≠39)(h43:t≠43)(h46:t≠46)(h47:t≠47)(h48:t≠48)(h50:t≠50)(h51:t≠51)(Zr:t≠257):uo t=none:=by
 unfold uo;rw[if_neg h1,if_neg h2,if_neg h5,if_neg h6,if_neg h12,if_neg h13,if_neg h15,if_neg h16,if_neg h28,if_neg h33,if_neg h35,if_neg h39,if_neg h43,if_neg h46,if_neg h47,if_neg h48,if_neg h50,if_neg h51,if_neg Zr]
end dt
open dt (Fld)
def tyF:Fld->TypeId
 | .num _=>238
 | .ip4=>239
 | .ip6=>242
 | .host=>220
 | .text=>240
 | .texts=>241
 | .tail=>249
 | .JC=>243
 | .b64=>245
 | .kind=>244
 | .kinds=>246
 | .Ux=>247
 | .hash=>248
def recvF:Fld->Value
 | .num n=>.int .i64 n
 | _=>.agg #[]
@[reducible] def encF (f:Fld):Value:=.iface (tyF f) (recvF f)
def kG (fs:List Fld)(w:World)(e:Ending)(w':World):Prop:=
 e= .returned (.tuple #[.slice (some ⟨w.heap.size,0,none⟩) fs.length fs.length,.bool true])/\w'=w.alloc (.cells (fs.map encF).toArray 218)
def Qz (t:Int)(w:World)(e:Ending)(w':World):Prop:=
 match dt.uo t with
 | some fs=>kG fs w e w'
 | none=>e= .returned (.tuple #[.slice none 0 0,.bool false])/\w'=w
theorem form_1 (w:World):Calls Tryz.prog 150 #[.int .i64 1] w λe w'=>kG [.ip4] w e w':=by
 go_enter Tryz.func150,Tryz.ntmps150
 go_wp2
 go_ret2;exact⟨rfl,rfl⟩
theorem form_2 (w:World):Calls Tryz.prog 150 #[.int .i64 2] w λe w'=>kG [.host] w e w':=by
 go_enter Tryz.func150,Tryz.ntmps150
 go_wp2
 go_ret2;exact⟨rfl,rfl⟩
theorem form_5 (w:World):Calls Tryz.prog 150 #[.int .i64 5] w λe w'=>kG [.host] w e w':=by
 go_enter Tryz.func150,Tryz.ntmps150
 go_wp2
 go_ret2;exact⟨rfl,rfl⟩
theorem form_6 (w:World):Calls Tryz.prog 150 #[.int .i64 6] w λe w'=>kG [.host,.host,.num 4,.num 4,.num 4,.num 4,.num 4] w e w':=by
 go_enter Tryz.func150,Tryz.ntmps150
 go_wp2
 go_ret2;exact⟨rfl,rfl⟩
theorem form_12 (w:World):Calls Tryz.prog 150 #[.int .i64 12] w λe w'=>kG [.host] w e w':=by
 go_enter Tryz.func150,Tryz.ntmps150
 go_wp2
 go_ret2;exact⟨rfl,rfl⟩
theorem form_13 (w:World):Calls Tryz.prog 150 #[.int .i64 13] w λe w'=>kG [.text,.text] w e w':=by
 go_enter Tryz.func150,Tryz.ntmps150
 go_wp2
 go_ret2;exact⟨rfl,rfl⟩
theorem form_15 (w:World):Calls Tryz.prog 150 #[.int .i64 15] w λe w'=>kG [.num 2,.host] w e w':=by
 go_enter Tryz.func150,Tryz.ntmps150
 go_wp2
 go_ret2;exact⟨rfl,rfl⟩
theorem form_16 (w:World):Calls Tryz.prog 150 #[.int .i64 16] w λe w'=>kG [.texts] w e w':=by
 go_enter Tryz.func150,Tryz.ntmps150
 go_wp2
 go_ret2;exact⟨rfl,rfl⟩
theorem form_28 (w:World):Calls Tryz.prog 150 #[.int .i64 28] w λe w'=>kG [.ip6] w e w':=by
 go_enter Tryz.func150,Tryz.ntmps150
 go_wp2
 go_ret2;exact⟨rfl,rfl⟩
theorem form_33 (w:World):Calls Tryz.prog 150 #[.int .i64 33] w λe w'=>kG [.num 2,.num 2,.num 2,.host] w e w':=by
 go_enter Tryz.func150,Tryz.ntmps150
 go_wp2
 go_ret2;exact⟨rfl,rfl⟩
theorem form_35 (w:World):Calls Tryz.prog 150 #[.int .i64 35] w λe w'=>kG [.num 2,.num 2,.text,.text,.text,.host] w e w':=by
 go_enter Tryz.func150,Tryz.ntmps150
 go_wp2
 go_ret2;exact⟨rfl,rfl⟩
theorem form_39 (w:World):Calls Tryz.prog 150 #[.int .i64 39] w λe w'=>kG [.host] w e w':=by
 go_enter Tryz.func150,Tryz.ntmps150
 go_wp2
 go_ret2;exact⟨rfl,rfl⟩
theorem form_43 (w:World):Calls Tryz.prog 150 #[.int .i64 43] w λe w'=>kG [.num 2,.num 1,.num 1,.JC] w e w':=by
 go_enter Tryz.func150,Tryz.ntmps150
 go_wp2
 go_ret2;exact⟨rfl,rfl⟩
theorem form_46 (w:World):Calls Tryz.prog 150 #[.int .i64 46] w λe w'=>kG [.kind,.num 1,.num 1,.num 4,.num 4,.num 4,.num 2,.host,.b64] w e w':=by
 go_enter Tryz.func150,Tryz.ntmps150
 go_wp2
 go_ret2;exact⟨rfl,rfl⟩
theorem form_47 (w:World):Calls Tryz.prog 150 #[.int .i64 47] w λe w'=>kG [.host,.kinds] w e w':=by
 go_enter Tryz.func150,Tryz.ntmps150
 go_wp2
 go_ret2;exact⟨rfl,rfl⟩
theorem form_48 (w:World):Calls Tryz.prog 150 #[.int .i64 48] w λe w'=>kG [.num 2,.num 1,.num 1,.b64] w e w':=by
 go_enter Tryz.func150,Tryz.ntmps150
 go_wp2
 go_ret2;exact⟨rfl,rfl⟩
theorem form_50 (w:World):Calls Tryz.prog 150 #[.int .i64 50] w λe w'=>kG [.num 1,.num 1,.num 2,.Ux,.hash,.kinds] w e w':=by
 go_enter Tryz.func150,Tryz.ntmps150
 go_wp2
 go_ret2;exact⟨rfl,rfl⟩
theorem form_51 (w:World):Calls Tryz.prog 150 #[.int .i64 51] w λe w'=>kG [.num 1,.num 1,.num 2,.Ux] w e w':=by
 go_enter Tryz.func150,Tryz.ntmps150
 go_wp2
 go_ret2;exact⟨rfl,rfl⟩
theorem form_257 (w:World):Calls Tryz.prog 150 #[.int .i64 257] w λe w'=>kG [.num 1,.text,.tail] w e w':=by
 go_enter Tryz.func150,Tryz.ntmps150
 go_wp2
 go_ret2;exact⟨rfl,rfl⟩
theorem form_no (t:Int)(h1:t≠1)(h2:t≠2)(h5:t≠5)(h6:t≠6)(h12:t≠12)(h13:t≠13)(h15:t≠15)(h16:t≠16)(h28:t≠28)(h33:t≠33)(h35:t≠35)(h39:t≠39)(h43:t≠43)(h46:t≠46)(h47:t≠47)(h48:t≠48)(h50:t≠50)(h51:t≠51)(Zr:t≠257)(w:World):Calls Tryz.prog 150 #[.int .i64 t] w λe w'=>e= .returned (.tuple #[.slice none 0 0,.bool false])/\w'=w:=by
 have b1:(t == 1)=false:=by rw[gG];exact h1
 have b2:(t == 2)=false:=by rw[gG];exact h2
 have b5:(t == 5)=false:=by rw[gG];exact h5
 have b6:(t == 6)=false:=by rw[gG];exact h6
 have b12:(t == 12)=false:=by rw[gG];exact h12
 have b13:(t == 13)=false:=by rw[gG];exact h13
 have b15:(t == 15)=false:=by rw[gG];exact h15
 have b16:(t == 16)=false:=by rw[gG];exact h16
 have b28:(t == 28)=false:=by rw[gG];exact h28
 have b33:(t == 33)=false:=by rw[gG];exact h33
 have b35:(t == 35)=false:=by rw[gG];exact h35
 have b39:(t == 39)=false:=by rw[gG];exact h39
 have b43:(t == 43)=false:=by rw[gG];exact h43
 have b46:(t == 46)=false:=by rw[gG];exact h46
 have b47:(t == 47)=false:=by rw[gG];exact h47
 have b48:(t == 48)=false:=by rw[gG];exact h48
 have b50:(t == 50)=false:=by rw[gG];exact h50
 have b51:(t == 51)=false:=by rw[gG];exact h51
 have b257:(t == 257)=false:=by rw[gG];exact Zr
 clear h1 h2 h5 h6 h12 h13 h15 h16 h28 h33 h35 h39 h43 h46 h47 h48 h50 h51 Zr
 go_enter Tryz.func150,Tryz.ntmps150
 go_wp2
 go_ret2;exact⟨rfl,rfl⟩
theorem Yz (t:Int)(w:World):Calls Tryz.prog 150 #[.int .i64 t] w λe w'=>Qz t w e w':=by
 by_cases h1:t=1
 ·subst h1;exact form_1 w
 by_cases h2:t=2
 ·subst h2;exact form_2 w
 by_cases h5:t=5
 ·subst h5;exact form_5 w
 by_cases h6:t=6
 ·subst h6;exact form_6 w
 by_cases h12:t=12
 ·subst h12;exact form_12 w
 by_cases h13:t=13
 ·subst h13;exact form_13 w
 by_cases h15:t=15
 ·subst h15;exact form_15 w
 by_cases h16:t=16
 ·subst h16;exact form_16 w
 by_cases h28:t=28
 ·subst h28;exact form_28 w
 by_cases h33:t=33
 ·subst h33;exact form_33 w
 by_cases h35:t=35
 ·subst h35;exact form_35 w
 by_cases h39:t=39
 ·subst h39;exact form_39 w
 by_cases h43:t=43
 ·subst h43;exact form_43 w
 by_cases h46:t=46
 ·subst h46;exact form_46 w
 by_cases h47:t=47
 ·subst h47;exact form_47 w
 by_cases h48:t=48
 ·subst h48;exact form_48 w
 by_cases h50:t=50
 ·subst h50;exact form_50 w
 by_cases h51:t=51
 ·subst h51;exact form_51 w
 by_cases Zr:t=257
 ·subst Zr;exact form_257 w
 have hn:=dt.formF_none h1 h2 h5 h6 h12 h13 h15 h16 h28 h33 h35 h39 h43 h46 h47 h48 h50 h51 Zr;refine(form_no t h1 h2 h5 h6 h12 h13 h15 h16 h28 h33 h35 h39 h43 h46 h47 h48 h50 h51 Zr w).mono λe w' h=>?_;unfold Qz;rw[hn];exact h
end Go.Proofs.YtpcmilhjpmlbpaaGreatDoor
namespace Go.Proofs.YtpcmilhjpmlbpaaGreatDoor
open Go.RowKit Go.Shelf
namespace nm
def kM (s:ByteArray):Bool:=qo s && Lib.hasPrefix s.data.toList starHead.data.toList
end nm
theorem isStar_any (s:ByteArray)(w:World):Calls Tryz.prog 121 #[.string s] w λe W'=>e= .returned (.bool (nm.kM s))/\Below w.heap.size w W':=by
 cases hc:nm.qo s
 ·have HC:=qe hc;clear hc
  go_enter Tryz.func121,Tryz.ntmps121
  go_wp2_with (first | (go_at_call 47;refine(zy _ _).mono ?_;rintro e w1 ⟨rfl,hB1⟩;rw[HC.out,Yr]));go_ret;refine⟨?_,hB1⟩;unfold nm.kM;rw[HC.out];rfl
 ·have HC:=qe hc;clear hc
  go_enter Tryz.func121,Tryz.ntmps121
  go_wp2_with (first | (go_at_call 47;refine(zy _ _).mono ?_;rintro e w1 ⟨rfl,hB1⟩;rw[HC.out,vR]) | (go_at_call 156;refine(Tryz.strings_HasPrefix _ _ _).mono ?_;rintro e w2 ⟨rfl,rfl⟩));go_ret;refine⟨?_,hB1⟩;unfold nm.kM;rw[HC.out];rfl
attribute [local go_sem] Oper.semAt_some
namespace nm
def vV (p:List (Nat×ByteArray)):List ByteArray:=(p.map (·.2)).filter (λl=>!l.toList.isEmpty)
def je (s:ByteArray):List ByteArray:=if qo s=true then vV (marks s) else []
end nm
theorem labels_no (F:Fence)(n:Nat)(h2:F.fn 170)(h4:F.fn 47)(h6:F.fn 84)(h8:F.fn 135)(hro:F.round=none)(hn:4<=n)(s:ByteArray)(hc:nm.qo s=false)(w:World):
 CallsIn F n Tryz.prog 170 #[.string s] w λe W'=>e= .returned (.slice none 0 0)/\Below w.heap.size w W':=by
 have h1:1<=n:=by omega
 have HC:=qe hc;clear hc;refine callsIn_of_wp_marks Tryz.func170 rfl h2 ?_ hro;simp only[Tryz.ntmps170,List.size_toArray,Ha,List.length_nil,Nat.reduceAdd,Nat.reduceSub,Array.replicate_succ,Array.replicate_zero,List.push_toArray,List.append_toArray,List.nil_append,List.cons_append];have hB0:=(gJ _ w).alloc (gI _) (.cells #[.slice none 0 0] 148)
 gi_wp2_with (gi_at_call 47;refine(YD F (n-1) h4 h6 h8 hro (by omega) s _).mono ?_;rintro e w1 ⟨rfl,hB1⟩;rw[HC.out,Yr])
 refine⟨.slice none 0 0,?_,rfl,hB0.trans (hB1.mono (by simp))⟩;simp[results,Tryz.f170,go_sem]
theorem VR {W w1:World}{n₀ B b m₀:Nat}{t e:TypeId}{size:Nat}{v v':Value}{k m:Nat}{xs ys:List Value}{tmp:Obj}
 (hv:Boxed W B t v) (hte:t≠e) (hrow:W.ownsRow n₀ e size v k xs) (hn₀:n₀<=W.heap.size) (hb:b<n₀) (hbB:b≠B) (hm:m₀<=n₀) (hmB:m₀<=B)
 (hown':w1.ownsRow n₀ e size v' m ys) (hgrow:(W.alloc tmp).grownBy w1 v.ownBlock):
 Boxed w1 B t v/\Boxed (w1.setCell ⟨B,0,none⟩ v') B t v'/\(w1.setCell ⟨B,0,none⟩ v').ownsRow n₀ e size v' m ys/\KeepsOthers W (w1.setCell ⟨B,0,none⟩ v')/\ze b W (w1.setCell ⟨B,0,none⟩ v')/\Below m₀ W (w1.setCell ⟨B,0,none⟩ v'):=by
 have hv1:Boxed w1 B t v:=(hv.alloc tmp).kept hgrow (hv.not_row hte hrow);have hown:∀j,v.ownBlock=some j->n₀<=j:=by
  intro j ej;rcases hrow.2 with⟨rfl,_⟩|⟨g,cap,cur,rfl,hb,_,_⟩
  ·simp[Value.ownBlock]at ej
  ·obtain rfl:g=j:=by simpa[Value.ownBlock] using ej
   exact hb
 refine⟨hv1,hv1.set v',hown'.kept (grownBy_setCell' w1 B v') (.inr (hv1.not_row hte hown').symm),?_,?_,?_⟩
 ·refine((KeepsOthers.alloc W tmp).trans (KeepsOthers.of_grownBy hgrow λj o ej hj=>?_)).trans (KeepsOthers.setCell _ _ _);rcases(hrow.alloc tmp).2 with⟨rfl,_⟩|⟨g,cap,cur,rfl,_,hgb,_⟩
  ·simp[Value.ownBlock]at ej
  ·obtain rfl:g=j:=by simpa[Value.ownBlock] using ej
   rw[hgb]at hj;cases hj;rfl
 ·have h1:ze b W (W.alloc tmp):=(ze.refl b W).alloc (by omega) tmp;have h2:ze b (W.alloc tmp) w1:=hgrow.block b (by simp;omega) (λej=>by have:=hown b ej.symm;omega);exact ze.setCell (show ze b W w1 from h2.trans h1) hbB v'
 ·refine(((gJ m₀ W).alloc (by omega) tmp).grown hgrow (by simp;omega) λj ej=>?_).setCell (p:=⟨B,0,none⟩) hmB v';have:=hown j ej;omega
theorem Jw:(Tryz.prog.info? 9).map (λi=>(i.zero,i.size,i.bytes))=some (some (.string ByteArray.empty),1,16):=by kernel_rfl
theorem qK {W:World}{base base':Nat}{e:TypeId}{size:Nat}{v:Value}{m:Nat}{xs:List Value}(h:W.ownsRow base e size v m xs)(hb:base'<=base):W.ownsRow base' e size v m xs:=by
 refine⟨h.1,?_⟩;rcases h.2 with hn | ⟨g,cap,cur,hv,hg,rest⟩
 ·exact .inl hn
 ·exact .inr ⟨g,cap,cur,hv,by omega,rest⟩
theorem labelsL_in (F:Fence)(n:Nat)(h2:F.fn 170)(h4:F.fn 47)(h6:F.fn 84)(h8:F.fn 135)(hro:F.round=none)(hn:4<=n)(s:ByteArray)(hc:nm.qo s=true)(w:World):
 CallsIn F n Tryz.prog 170 #[.string s] w λe W'=>(∃v,e= .returned v/\W'.ownsRow w.heap.size 9 1 v (nm.je s).length ((nm.je s).map .string))/\Below w.heap.size w W':=by
 have h1:1<=n:=by omega
 have hs:=qV hc;have hml:=nm.xm s;have HC:=qe hc;clear hc;refine callsIn_of_wp_marks Tryz.func170 rfl h2 ?_ hro;simp only[Tryz.ntmps170,List.size_toArray,Ha,List.length_nil,Nat.reduceAdd,Nat.reduceSub,Array.replicate_succ,Array.replicate_zero,List.push_toArray,List.append_toArray,List.nil_append,List.cons_append];have hB0:=(gJ _ w).alloc (gI _) (.cells #[.slice none 0 0] 148);have D1:=qe (Boxed.new w 148 (.slice none 0 0))
 gi_wp2_with (first
  | (gi_at_call 47;refine(YD F (n-1) h4 h6 h8 hro (by omega) s _).mono ?_;rintro e w1 ⟨rfl,hB1⟩;rw[HC.out,vR])
  | (gi_at_call 84;refine(J8 F (n-1) h6 hro _ _).mono ?_;rintro e w' ⟨rfl,rfl⟩))
 have c2:=zC w1 (.string s) 9;have hsz:=hB1.size;simp only[World.size_alloc]at hsz;have hb1:Boxed (w1.alloc (.cells #[.string s] 9)) w.heap.size 148 (.slice none 0 0):=Boxed.alloc ((hB1.block _ (by simp)).trans D1.out) _;have hBW:Below w.heap.size w (w1.alloc (.cells #[.string s] 9)):=(hB0.trans (hB1.mono (by simp))).alloc (by omega) _
 refine wpIn_rangeFunc_ownF hro h1 (gf:=135) (lb:=#[.pointer (some ⟨w1.heap.size,0,none⟩)]) rfl h8 (enters_of Tryz.func135 (by kernel_rfl) rfl)
  (KA F (n-1) h8 hro (by omega) w1.heap.size s (by omega) _ (by simp) c2.1) uD (uE (by simp)) (gJ _ _) (λ_=>rfl)
  (λpre W=>(∃v,Boxed W w.heap.size 148 v/\W.ownsRow (w1.heap.size+1) 9 1 v (nm.vV (pre.map (·.1))).length ((nm.vV (pre.map (·.1))).map .string)/\True)/\(w1.heap.size+1<=W.heap.size/\Below w.heap.size w W))
  (λ_ _ _=>False)
  (OwnFrom.and (Own.from (holdsRow_own (w1.heap.size+1) w.heap.size 148 9 1 (λpre:List { p:Nat×ByteArray // p∈nm.marks s}=>(nm.vV (pre.map (·.1))).length) (λpre=>(nm.vV (pre.map (·.1))).map .string) (λ_ _=>True)) _) (OwnFrom.and (λs A B row hs hg hr=>gQ hs hg.size) (ownFrom_below (by omega) (by simp;omega))))
  (λ_ _ _ _ _ h _ _=>h)
  ⟨⟨_,hb1,gZ _ _ _ _,trivial⟩,by simp,hBW⟩
  (λx=>{ tmps:=#[.string s,undef,.slice none 0 0,.pointer (some ⟨w.heap.size,0,none⟩),undef,.string x.1.2,.string s,.int .i64 0,.bool false,.string s,
   .func (.func 135) #[] #[.pointer (some ⟨w1.heap.size,0,none⟩)],.int .i64 (x.1.1:Int),.string x.1.2,undef,undef,undef,undef,undef,undef,undef],defers:=[]}) ?assign ?body ?done ?stop
 case assign=>
  intro l x W K hK
  dsimp only[markV]
  gi_wp2
  exact hK
 case body=>
  rintro l pre x W ⟨⟨v,hv,hrow,_⟩,hws,hB⟩ hlen;have hx:=hv.cell;have hfz:=hv.frozen;have HB:=qe hB;have HR:=qe hrow;have HV:=qe hv;have HL:=qe hlen;clear hB hrow hv hlen
  cases he:x.1.2.toList.isEmpty
  ·have hkl:nm.vV ((pre ++ [x]).map (·.1))=nm.vV (pre.map (·.1)) ++ [x.1.2]:=by
    unfold nm.vV;rw[List.map_append,List.map_append,List.filter_append]
    congr 1
    simp[he]
   have HKL:=qe hkl;clear hkl;obtain⟨i0,hi,hz0,hz1,hz2⟩:=info_parts Jw;have hkn:(nm.vV (pre.map (·.1))).length<=pre.length:=by
    unfold nm.vV;refine gQ (List.length_filter_le _ _) (by simp)
   have q1:(nm.vV (pre.map (·.1))).length+1<=maxLen:=by have:=HL.out;simp only[maxLen];omega
   have q2:((nm.vV (pre.map (·.1))).length+1)*16<=140737488355328:=by have:=HL.out;omega
   have Q1:=qe q1;have Q2:=qe q2;have HI:=qe hi;have HZ:=qe hz0;have HZ1:=qe hz1;have HZ2:=qe hz2;clear hkn q1 q2 hi hz0 hz1 hz2
   gi_wp2_with (gi_at_builtin;refine wpListIn_append_own _ rfl _ _ 148 rfl (w1.heap.size+1) 9 i0 (.string ByteArray.empty) 1 16 Tryz.underlying148 HI.out HZ.out HZ1.out HZ2.out rfl (by decide) _ _ _ rfl (HR.out.alloc _) ⟨W.heap.size,0,none⟩ 1 1 [.string x.1.2] rfl rfl (cell_one_new _ _ _) (by simp[Value.oneCell']) Q1.out Q2.out (by simp;omega) ?_;intro v' w2 hown' hgrow _;obtain⟨g',cap',rfl⟩:=ownsRow_succ hown';obtain⟨hv1,hv2,hr2,hk2,hkb,hb2⟩:=VR (b:=w1.heap.size) (m₀:=w.heap.size) HV.out (by decide) HR.out (by omega) (by omega) (by omega) (by omega) (by omega) hown' hgrow;have hc1:=hv1.cell;have hf1:=hv1.frozen;have HV2:=qe hv2;have HR2:=qe hr2;have HK2:=qe hk2;have HKB:=qe hkb;have HB2:=qe hb2;clear hown' hgrow hv1 hv2 hr2 hk2 hkb hb2)
   refine⟨HK2.out,HKB.out,⟨_,HV2.out,?_⟩,gQ hws HB2.out.size,HB.out.trans HB2.out⟩;have hr:=HR2.out;rw[HKL.out];simp;exact hr
  ·have hkl:nm.vV ((pre ++ [x]).map (·.1))=nm.vV (pre.map (·.1)):=by
    unfold nm.vV;rw[List.map_append,List.map_append,List.filter_append];simp[he]
   have HKL:=qe hkl;clear hkl
   gi_wp2
   refine⟨KeepsOthers.refl _,ze.refl _ _,⟨_,HV.out,?_⟩,hws,HB.out⟩;rw[HKL.out];exact HR.out
 case done=>
  rintro D ys W hD hys ⟨⟨v,hv,hrow,_⟩,hws,hB⟩ hK;have hx:=hv.cell;have HYS:=qe hys;clear hys
  gi_wp2
  refine⟨by simp,.inl ⟨_,_,rfl,run_takeDeferred hK,?_⟩⟩;refine⟨_,results_tmp rfl _ _ _,⟨v,rfl,?_⟩,hB.trans (belowK_b (w:=w) (gI _) W D _ _ (by simp at hD;omega) hK rfl rfl)⟩;have hll:nm.je s=nm.vV (ys.map (·.1)):=by
   unfold nm.je;rw[if_pos HC.out,HYS.out]
  rw[hll];exact ownsRow_putObj (qK hrow (by omega)) _ hK rfl
 case stop=>
  rintro D cd pre W hD hpre h hK;exact h.elim
theorem vU (s:ByteArray)(w:World):Calls Tryz.prog 170 #[.string s] w λe W'=>(∃v,e= .returned v/\W'.ownsRow w.heap.size 9 1 v (nm.je s).length ((nm.je s).map .string))/\Below w.heap.size w W':=by
 refine(callsIn_wide (n:=4)).1 ?_
 cases hc:nm.qo s
 ·refine(labels_no Fence.wide 4 trivial trivial trivial trivial rfl (gI _) s hc w).mono ?_;rintro e w' ⟨rfl,hB⟩;have hl:nm.je s= []:=by unfold nm.je;rw[if_neg (by rw[hc];simp)]
  rw[hl];exact⟨⟨_,rfl,gZ _ _ _ _⟩,hB⟩
 ·exact labelsL_in Fence.wide 4 trivial trivial trivial trivial rfl (gI _) s hc w
end Go.Proofs.YtpcmilhjpmlbpaaGreatDoor
namespace Go.Proofs.YtpcmilhjpmlbpaaGreatDoor
open Go.RowKit Go.Shelf
namespace nm
def yA:List ByteArray->List ByteArray->Int
 | [],[]=>0
 | [],_ :: _=>-1
 | _ :: _,[]=>1
 | a :: x,b :: y=>if Lib.compareBytes a.data.toList b.data.toList=0 then yA x y else Lib.compareBytes a.data.toList b.data.toList
def zo (a b:ByteArray):Int:=if qo a=true/\qo b=true then yA (je (kY a)).reverse (je (kY b)).reverse else 0
theorem Ym {X:List ByteArray}{k:Nat}(h1:1<=k)(h2:k<=X.length):X.reverse.drop (k-1)=X[X.length-k]'(by omega) :: X.reverse.drop k:=by
 obtain⟨k,rfl⟩:∃j,k=j+1:=⟨k-1,by omega⟩;rw[Nat.add_sub_cancel,Hf (by simp;omega)]
 congr 1
 rw[List.getElem_reverse]
 congr 1
 omega
theorem cmp_next {X Y:List ByteArray}{k:Nat}(h1:1<=k)(hx:k<=X.length)(hy:k<=Y.length)(h:Lib.compareBytes (X[X.length-k]'(by omega)).data.toList (Y[Y.length-k]'(by omega)).data.toList=0):
 yA (X.reverse.drop (k-1)) (Y.reverse.drop (k-1))=yA (X.reverse.drop k) (Y.reverse.drop k):=by
 rw[Ym h1 hx,Ym h1 hy,yA,if_pos h]
theorem cmp_stop {X Y:List ByteArray}{k:Nat}(h1:1<=k)(hx:k<=X.length)(hy:k<=Y.length)(h:Lib.compareBytes (X[X.length-k]'(by omega)).data.toList (Y[Y.length-k]'(by omega)).data.toList≠0):
 yA (X.reverse.drop (k-1)) (Y.reverse.drop (k-1))=Lib.compareBytes (X[X.length-k]'(by omega)).data.toList (Y[Y.length-k]'(by omega)).data.toList:=by
 rw[Ym h1 hx,Ym h1 hy,yA,if_neg h]
theorem cmp_end {X Y:List ByteArray}{k:Nat}(h1:1<=k)(hx:k<=X.length+1)(hy:k<=Y.length+1)(h:X.length<k\/Y.length<k):
 yA (X.reverse.drop (k-1)) (Y.reverse.drop (k-1))=if X.length<Y.length then -1 else if Y.length<X.length then 1 else 0:=by
 by_cases a:X.length<Y.length
 ·have hx0:X.reverse.drop (k-1)= []:=List.drop_eq_nil_of_le (by simp;omega);rw[if_pos a,hx0,Ym h1 (by omega),yA]
 ·rw[if_neg a];by_cases b:Y.length<X.length
  ·have hy0:Y.reverse.drop (k-1)= []:=List.drop_eq_nil_of_le (by simp;omega);rw[if_pos b,hy0,Ym h1 (by omega),yA]
  ·have hx0:X.reverse.drop (k-1)= []:=List.drop_eq_nil_of_le (by simp;omega);have hy0:Y.reverse.drop (k-1)= []:=List.drop_eq_nil_of_le (by simp;omega);rw[if_neg b,hx0,hy0,yA]
theorem cmp_range (a b:ByteArray):-1<=Lib.compareBytes a.data.toList b.data.toList/\Lib.compareBytes a.data.toList b.data.toList<=1:=by
 have h:∀x y:List UInt8,-1<=Lib.compareBytes x y/\Lib.compareBytes x y<=1:=by
  intro x
  induction x with
  | nil=>intro y;cases y <;> simp[Lib.compareBytes]
  | cons c x ih=>
    intro y
    cases y with
    | nil=>simp[Lib.compareBytes]
    | cons d y=>
      rw[Lib.compareBytes]
      split
      ·omega
      ·split
       ·omega
       ·exact ih y
 exact h _ _
theorem Xk (s:ByteArray):(je s).length<=s.size:=by
 unfold je
 split
 ·unfold vV;refine gQ (List.length_filter_le _ _) ?_;rw[List.length_map];exact xm s
 ·exact gU _
theorem VG (s:ByteArray):(kY s).size=s.size:=by
 show(kY s).data.size=s.data.size;unfold kY;simp
end nm
theorem JJ {B:Nat}{a w:World}(h:Below B a w)(n:Nat):Below B a (w.drewN n):=⟨h.os,h.tape,h.output,h.size,h.block⟩
theorem UC {W W':World}{base:Nat}{e:TypeId}{v:Value}{xs:List ByteArray}(h:W.ownsRow base e 1 v xs.length (xs.map .string))(hk:∀g,g<W.heap.size->W'.heap[g]? =W.heap[g]?):
 ∃a cap,v= .slice a xs.length cap/\xs.length<=cap/\∀j (hj:j<xs.length),∃g,a=some ⟨g,0,none⟩/\W'.cell? ⟨g,j,none⟩=some (.string xs[j]):=by
 rcases h.2 with⟨rfl,h0⟩|⟨g,cap,cur,rfl,_,hg,hnc,_,_,hx⟩
 ·exact⟨none,0,by rw[h0],by omega,λj hj=>by omega⟩
 ·refine⟨_,cap,rfl,hnc,λj hj=>⟨g,rfl,?_⟩⟩;have hg':=(hk g (qA hg)).trans hg;rw[qg hg'];have h2:(xs.map Value.string)[j]? =some (.string xs[j]):=by rw[List.getElem?_map,List.getElem?_eq_getElem hj];rfl
  rw[<- h2,<- hx,List.getElem?_take]
  split
  ·simp
  ·omega
theorem Qb {W:World}{base:Nat}{e:TypeId}{g n cap:Nat}{xs:List Value}(h:W.ownsRow base e 1 (.slice (some ⟨g,0,none⟩) n cap) n xs):∀j (hj:j<xs.length),W.cell? ⟨g,j,none⟩=some xs[j]:=by
 intro j hj;rcases h.2 with⟨h0,_⟩|⟨g',cap',cur,he,_,hg,hnc,_,_,hx⟩
 ·cases h0
 ·simp only[gL,gM,Addr.mk.injEq,and_true,true_and]at he;obtain⟨rfl,rfl⟩:=he;rw[qg hg];have h2:xs[j]? =some xs[j]:=List.getElem?_eq_getElem hj;rw[<- h2,<- hx,List.getElem?_take]
  split
  ·simp
  ·have:=h.1;omega
theorem compare_no (a b:ByteArray)(ha:a.size<=140737488355328)(hb:b.size<=140737488355328)(h:¬(nm.qo a=true/\nm.qo b=true))(w:World):Calls Tryz.prog 128 #[.string a,.string b] w λe W'=>e= .returned (.int .i64 (nm.zo a b))/\Below w.heap.size w W':=by
 have hr:nm.zo a b=0:=by unfold nm.zo;rw[if_neg h]
 have HR:=qe hr;clear hr
 cases ca:nm.qo a
 ·have CA:=qe ca;clear ca h
  go_enter Tryz.func128,Tryz.ntmps128
  go_wp2_with fail;refine(vS a ha _).mono ?_;rintro e w1 ⟨rfl,hB1⟩;go_wp2_with fail;refine(vU _ _).mono ?_;rintro e w2 ⟨⟨v1,rfl,hR1⟩,hB2⟩;go_wp2_with fail;refine(vS b hb _).mono ?_;rintro e w3 ⟨rfl,hB3⟩;go_wp2_with fail;refine(vU _ _).mono ?_;rintro e w4 ⟨⟨v2,rfl,hR2⟩,hB4⟩;go_wp2_with (go_at_call 47;refine(zy _ _).mono ?_;rintro e w5 ⟨rfl,hB5⟩;rw[CA.out,Yr]);go_ret;have z1:=hB1.size;have z2:=hB2.size;have z3:=hB3.size;have z4:=hB4.size;exact⟨qQ HR.out.symm,(((hB1.trans (hB2.mono z1)).trans (hB3.mono (by omega))).trans (hB4.mono (by omega))).trans (hB5.mono (by omega))⟩
 ·cases cb:nm.qo b
  ·have CA:=qe ca;have CB:=qe cb;clear ca cb h
   go_enter Tryz.func128,Tryz.ntmps128
   go_wp2_with fail;refine(vS a ha _).mono ?_;rintro e w1 ⟨rfl,hB1⟩;go_wp2_with fail;refine(vU _ _).mono ?_;rintro e w2 ⟨⟨v1,rfl,hR1⟩,hB2⟩;go_wp2_with fail;refine(vS b hb _).mono ?_;rintro e w3 ⟨rfl,hB3⟩;go_wp2_with fail;refine(vU _ _).mono ?_;rintro e w4 ⟨⟨v2,rfl,hR2⟩,hB4⟩;go_wp2_with fail;refine(zy _ _).mono ?_;rintro e w5 ⟨rfl,hB5⟩;rw[CA.out,vR];go_wp2_with fail;refine(zy _ _).mono ?_;rintro e w6 ⟨rfl,hB6⟩;rw[CB.out,Yr];go_wp2_with fail;go_ret;have z1:=hB1.size;have z2:=hB2.size;have z3:=hB3.size;have z4:=hB4.size;have z5:=hB5.size;exact⟨qQ HR.out.symm,((((hB1.trans (hB2.mono z1)).trans (hB3.mono (by omega))).trans (hB4.mono (by omega))).trans (hB5.mono (by omega))).trans (hB6.mono (by omega))⟩
  ·exact absurd ⟨ca,cb⟩ h
theorem compare_yes (a b:ByteArray)(ha:nm.qo a=true)(hb:nm.qo b=true)(w:World):Calls Tryz.prog 128 #[.string a,.string b] w λe W'=>e= .returned (.int .i64 (nm.zo a b))/\Below w.heap.size w W':=by
 have hr:nm.zo a b=nm.yA (nm.je (nm.kY a)).reverse (nm.je (nm.kY b)).reverse:=by unfold nm.zo;rw[if_pos ⟨ha,hb⟩]
 have sa:=qV ha;have sb:=qV hb;have CA:=qe ha;have CB:=qe hb;clear ha hb;have hlx:=nm.Xk (nm.kY a);have hly:=nm.Xk (nm.kY b);rw[nm.VG]at hlx hly
 go_enter Tryz.func128,Tryz.ntmps128
 obtain⟨X,hX⟩:=yM (nm.je (nm.kY a));obtain⟨Y,hY⟩:=yM (nm.je (nm.kY b));rw[<- hX,<- hY]at hr;rw[<- hX]at hlx;rw[<- hY]at hly;have HR:=qe hr;have HX:=qe hX;have HY:=qe hY;clear hr hX hY;go_wp2_with fail;refine(vS a (by omega) _).mono ?_;rintro e w1 ⟨rfl,hB1⟩;go_wp2_with fail;refine(vU _ _).mono ?_;rintro e w2 ⟨⟨v1,rfl,hR1⟩,hB2⟩;rw[<- HX.out]at hR1;have HR1:=qe hR1;clear hR1;go_wp2_with fail;refine(vS b (by omega) _).mono ?_;rintro e w3 ⟨rfl,hB3⟩;go_wp2_with fail;refine(vU _ _).mono ?_;rintro e w4 ⟨⟨v2,rfl,hR2⟩,hB4⟩;rw[<- HY.out]at hR2;have HR2:=qe hR2;clear hR2;go_wp2_with fail;refine(zy _ _).mono ?_;rintro e w5 ⟨rfl,hB5⟩;rw[CA.out,vR];go_wp2_with fail;refine(zy _ _).mono ?_;rintro e w6 ⟨rfl,hB6⟩;rw[CB.out,vR];have z1:=hB1.size;have z2:=hB2.size;have z3:=hB3.size;have z4:=hB4.size;have z5:=hB5.size;have hB:=qe (((((hB1.trans (hB2.mono z1)).trans (hB3.mono (by omega))).trans (hB4.mono (by omega))).trans (hB5.mono (by omega))).trans (hB6.mono (by omega)));have k1:∀g,g<w2.heap.size->w6.heap[g]? =w2.heap[g]?:=λg hg=>(hB6.block g (by omega)).trans ((hB5.block g (by omega)).trans ((hB4.block g (by omega)).trans (hB3.block g hg)));have k2:∀g,g<w4.heap.size->w6.heap[g]? =w4.heap[g]?:=λg hg=>(hB6.block g (by omega)).trans (hB5.block g hg);have K1:=qe k1;have K2:=qe k2;clear k1 k2;obtain⟨ax,cx,hv1,hcx,fx⟩:=UC HR1.out K1.out;obtain⟨ay,cy,hv2,hcy,fy⟩:=UC HR2.out K2.out;subst hv1 hv2;have FX:=qe fx;have FY:=qe fy;clear fx fy;go_wp2_with fail
 go_loopw [7,4,8] (λkv _ _ wr=>∃k:Nat,1<=k/\k<=X.length+1/\k<=Y.length+1/\kv= .int .i64 k/\nm.zo a b=nm.yA (X.reverse.drop (k-1)) (Y.reverse.drop (k-1))/\wr.heap=w6.heap/\Below w.heap.size w wr) (λkv _ _ _=>X.length+2-(intOf kv).toNat)
 case atStart=>exact⟨1,by omega,by omega,by omega,rfl,HR.out,rfl,hB.out⟩
 case round=>
  obtain⟨k,hk1,hkx,hky,rfl,he,hh,hb⟩:=hrel;have HE:=qe he;have HH:=qe hh;have HB:=qe hb;clear he hh hb;by_cases hlt:k<=X.length/\k<=Y.length
  ·obtain⟨hlx',hly'⟩:=hlt;obtain⟨gx,rfl,cx1⟩:=FX.out (X.length-k) (by omega);obtain⟨gy,rfl,cy1⟩:=FY.out (Y.length-k) (by omega);rw[<- World.cell?_of_block (w:=w6) (a:=⟨gx,X.length-k,none⟩) (by rw[HH.out])]at cx1;rw[<- World.cell?_of_block (w:=w6) (a:=⟨gy,Y.length-k,none⟩) (by rw[HH.out])]at cy1;have e1:IntKind.i64.wrap ((X.length:Int)-k)=(X.length:Int)-k:=Hg _ (by omega);have e2:(0:Int)<=(X.length:Int)-k:=by omega
   have e3:((X.length:Int)-k).toNat=X.length-k:=by omega
   have e4:IntKind.i64.wrap ((Y.length:Int)-k)=(Y.length:Int)-k:=Hg _ (by omega);have e5:(0:Int)<=(Y.length:Int)-k:=by omega
   have e6:((Y.length:Int)-k).toNat=Y.length-k:=by omega
   have e7:(X.length:Int)-k<X.length:=by omega
   have e8:(Y.length:Int)-k<Y.length:=by omega
   have px:X.length-k<X.length:=by omega
   have py:Y.length-k<Y.length:=by omega
   have hcr:=nm.cmp_range (X[X.length-k]'px) (Y[Y.length-k]'py);have HCR:=qe hcr;clear hcr;by_cases hc0:Lib.compareBytes (X[X.length-k]'px).data.toList (Y[Y.length-k]'py).data.toList=0
   ·have hnx:nm.zo a b=nm.yA (X.reverse.drop k) (Y.reverse.drop k):=by rw[HE.out,nm.cmp_next hk1 hlx' hly' hc0]
    have b1:(Lib.compareBytes (X[X.length-k]'px).data.toList (Y[Y.length-k]'py).data.toList != 0)=false:=by rw[hc0];rfl
    have HN:=qe hnx;clear hnx hc0;go_wp2_with fail
    go_quiet ((go_at_call 130;exact Calls.quiet_of_same (Tryz.strings_Compare _ _ _)))
    go_wp2_with fail
    go_roundw
    case rel=>exact⟨k+1,by omega,by omega,by omega,by go_num,by rw[Nat.add_sub_cancel];exact HN.out,HH.out,JJ HB.out _⟩
    case measure=>simp[intOf];omega
   ·have hnx:nm.zo a b=Lib.compareBytes (X[X.length-k]'px).data.toList (Y[Y.length-k]'py).data.toList:=by rw[HE.out,nm.cmp_stop hk1 hlx' hly' hc0]
    have b1:(Lib.compareBytes (X[X.length-k]'px).data.toList (Y[Y.length-k]'py).data.toList != 0)=true:=by rw[bne_iff_ne];exact hc0
    have HN:=qe hnx;clear hnx hc0;go_wp2_with fail
    go_quiet ((go_at_call 130;exact Calls.quiet_of_same (Tryz.strings_Compare _ _ _)))
    go_wp2_with fail;go_ret;exact⟨qQ HN.out.symm,JJ HB.out _⟩
  ·have hen:nm.zo a b=if X.length<Y.length then -1 else if Y.length<X.length then 1 else 0:=by rw[HE.out,nm.cmp_end hk1 hkx hky (by omega)]
   by_cases h1:X.length<Y.length
   ·rw[if_pos h1]at hen;have HN:=qe hen;clear hen;by_cases hx1:k<=X.length
    ·have:¬k<=Y.length:=by omega
     go_wp2_with fail;go_ret;exact⟨qQ HN.out.symm,HB.out⟩
    ·go_wp2_with fail;go_ret;exact⟨qQ HN.out.symm,HB.out⟩
   ·rw[if_neg h1]at hen;by_cases h2:Y.length<X.length
    ·rw[if_pos h2]at hen;have HN:=qe hen;clear hen;by_cases hx1:k<=X.length
     ·have:¬k<=Y.length:=by omega
      go_wp2_with fail;go_ret;exact⟨qQ HN.out.symm,HB.out⟩
     ·go_wp2_with fail;go_ret;exact⟨qQ HN.out.symm,HB.out⟩
    ·rw[if_neg h2]at hen;have HN:=qe hen;clear hen;by_cases hx1:k<=X.length
     ·have:¬k<=Y.length:=by omega
      go_wp2_with fail;go_ret;exact⟨qQ HN.out.symm,HB.out⟩
     ·go_wp2_with fail;go_ret;exact⟨qQ HN.out.symm,HB.out⟩
theorem compare_any (a b:ByteArray)(ha:a.size<=140737488355328)(hb:b.size<=140737488355328)(w:World):Calls Tryz.prog 128 #[.string a,.string b] w λe W'=>e= .returned (.int .i64 (nm.zo a b))/\Below w.heap.size w W':=by
 by_cases h:nm.qo a=true/\nm.qo b=true
 ·exact compare_yes a b h.1 h.2 w
 ·exact compare_no a b ha hb h w
end Go.Proofs.YtpcmilhjpmlbpaaGreatDoor
namespace Go.Proofs.YtpcmilhjpmlbpaaGreatDoor.nm
def nameOf (ls:List (List UInt8)):ByteArray:=⟨(zX ls).toArray⟩
def jH (ls:List (List UInt8)):List (List UInt8):=ls.map (·.map ZO)
theorem rows_nameOf {s:ByteArray}{ls:List (List UInt8)}(h:rows s=some ls):s=nameOf ls:=YX (yc h).2.2.1
theorem XQ {ls:List (List UInt8)}(ho:Zj ls)(hl:(zX ls).length<=255):rows (nameOf ls)=some ls:=rows_put ho hl
theorem Yk {s:ByteArray}{ls:List (List UInt8)}(h:rows s=some ls):(zX ls).length=s.size:=by
 rw[<- (yc h).2.2.1];exact Array.length_toList
theorem rowOk_drop {ls:List (List UInt8)}(h:Zj ls)(j:Nat):Zj (ls.drop j):=λl hl=>h l (List.mem_of_mem_drop hl)
theorem lowB_small {c:UInt8}(h:c.toNat<65):ZO c=c:=UM (by omega)
theorem putL_low:∀(ls:List (List UInt8)),Zj ls->(zX ls).map ZO=zX (jH ls):=by
 intro ls
 induction ls with
 | nil=>intro _;rfl
 | cons l ls ih=>
   intro h;obtain⟨h0,h1⟩:=h l (by simp);rw[zX,List.map_cons,List.map_append,ih (λx hx=>h x (by simp[hx]))];show _=zX (l.map ZO :: jH ls);rw[zX,List.length_map,lowB_small];rw[UInt8.toNat_ofNat'];omega
theorem QY {ls:List (List UInt8)}(h:Zj ls):Zj (jH ls):=λl hl=>by
 obtain⟨x,hx,rfl⟩:=List.mem_map.1 hl
 simpa using h x hx
theorem QP {ls:List (List UInt8)}(h:Zj ls):(zX (jH ls)).length=(zX ls).length:=by rw[<- putL_low ls h,List.length_map]
theorem Jv {s:ByteArray}{ls:List (List UInt8)}(h:rows s=some ls):kY s=nameOf (jH ls):=by
 obtain⟨_,h2,h3,_⟩:=yc h;apply YX;show s.data.toList.map ZO=zX (jH ls);rw[h3,putL_low ls h2]
theorem UA {s:ByteArray}{ls:List (List UInt8)}(h:rows s=some ls):rows (kY s)=some (jH ls):=by
 obtain⟨h1,h2,h3,_⟩:=yc h;rw[Jv h];exact XQ (QY h2) (by rw[QP h2,Yk h];exact h1)
theorem vW {s:ByteArray}{ls:List (List UInt8)}(h:rows s=some ls):qy s=nameOf (jH ls):=by
 unfold qy;rw[jA,h,if_pos (show(some ls).isSome=true from rfl),Jv h]
theorem vL {s:ByteArray}{ls:List (List UInt8)}(h:rows s=some ls):rows (qy s)=some (jH ls):=by
 rw[vW h,<- Jv h,UA h]
theorem yO {s:ByteArray}(h:qo s=true):∃ls,rows s=some ls:=by
 rw[jA]at h;exact Option.isSome_iff_exists.1 h
theorem Qy {s:ByteArray}{ls:List (List UInt8)}(h:rows s=some ls):qo s=true:=by rw[jA,h];rfl
theorem Qw {s:ByteArray}{ls:List (List UInt8)}(h:rows s=some ls):qM s=ls.length:=by rw[Qx,h]
theorem nameOf_inj {a b:List (List UInt8)}(ha:Zj a)(hb:Zj b)(hl:(zX a).length<=255)(h:nameOf a=nameOf b):a=b:=by
 have h1:zX a=zX b:=by
  have:=congrArg (λs:ByteArray=>s.data.toList) h
  simpa[nameOf] using this
 have h2:=XQ ha hl;rw[h,XQ hb (by rw[<- h1];exact hl)]at h2;exact(Hr h2).symm
theorem uw {s:ByteArray}{ls:List (List UInt8)}(h:rows s=some ls){k:Int}(h0:0<=k)(h1:k<=ls.length):
 zQ s k=nameOf (ls.drop (ls.length-k.toNat))/\rows (zQ s k)=some (ls.drop (ls.length-k.toNat)):=by
 obtain⟨a1,a2,a3,_⟩:=yc h;have e:zQ s k=nameOf (ls.drop (ls.length-k.toNat)):=by rw[KP,h];simp only;rw[if_pos ⟨h0,h1⟩];rfl
 refine⟨e,?_⟩;rw[e];refine XQ (rowOk_drop a2 _) ?_;have:=(putL_drop ls (ls.length-k.toNat) (by omega)).2;have:=Yk h;omega
theorem JW {s:ByteArray}{ls:List (List UInt8)}(h:rows s=some ls):zQ s ls.length=s:=by
 rw[(uw h (by omega) (by omega)).1,rows_nameOf h];simp
theorem count_tail {s:ByteArray}{ls:List (List UInt8)}(h:rows s=some ls){k:Int}(h0:0<=k)(h1:k<=ls.length):qM (zQ s k)=k:=by
 rw[Qw (uw h h0 h1).2,He];omega
theorem Xd {s:ByteArray}{ls:List (List UInt8)}(h:rows s=some ls){k:Int}(h0:1<=k)(h1:k<=ls.length):UE (zQ s k)=zQ s (k-1):=by
 unfold UE;have h2:=(uw h (by omega:0<=k) h1).2;rw[count_tail h (by omega) h1];have hl:(ls.drop (ls.length-k.toNat)).length=k.toNat:=by rw[He];omega
 rw[(uw h2 (by omega) (by rw[hl];omega)).1,(uw h (by omega) (by omega)).1,List.drop_drop,hl]
 congr 2
 omega
theorem Ud {a b:ByteArray}{x y:List (List UInt8)}(ha:rows a=some x)(hb:rows b=some y):qG a b=decide (jH x=jH y):=by
 unfold qG;rw[Qy ha,Qy hb,Bool.true_and,Bool.true_and,Jv ha,Jv hb];obtain⟨a1,a2,_,_⟩:=yc ha;obtain⟨b1,b2,_,_⟩:=yc hb;by_cases h:jH x=jH y
 ·rw[h,gF rfl];exact str_eq.2 rfl
 ·rw[gp h];refine str_ne (λe=>h (nameOf_inj (QY a2) (QY b2) (by rw[QP a2,Yk ha];exact a1) e))
theorem Xo {a b:ByteArray}(h:qG a b=true):qo a=true/\qo b=true:=by
 unfold qG at h;simp only[gX]at h;exact⟨h.1.1,h.1.2⟩
theorem lowR_drop (ls:List (List UInt8))(j:Nat):jH (ls.drop j)=(jH ls).drop j:=by unfold jH;rw[List.map_drop]
theorem Zv {a z:ByteArray}{x y:List (List UInt8)}(ha:rows a=some x)(hz:rows z=some y):zI a z=true↔y.length<=x.length/\(jH x).drop (x.length-y.length)=jH y:=by
 unfold zI;rw[Qw hz,gF (by omega),Bool.true_and];by_cases hl:y.length<=x.length
 ·have h2:=(uw ha (k:=y.length) (by omega) (by omega)).2;rw[Ud h2 hz,H7,lowR_drop];simp[hl]
 ·have hn:zQ a (y.length:Int)=ByteArray.empty:=by
   rw[KP,ha];simp only;rw[if_neg (by omega)]
  rw[hn];have:qG ByteArray.empty z=false:=rfl;rw[this];simp;omega
theorem fold_size (s:ByteArray):(qy s).size<=255:=by
 unfold qy
 split
 ·rename_i h
  have:(kY s).size=s.size:=VG s;rw[this];exact qV h
 ·decide
end Go.Proofs.YtpcmilhjpmlbpaaGreatDoor.nm
