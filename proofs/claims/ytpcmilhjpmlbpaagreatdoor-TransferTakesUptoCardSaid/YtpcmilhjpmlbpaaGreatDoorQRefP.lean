import Derived.Test.YtpcmilhjpmlbpaaGreatDoorQRefK
import Derived.Test.YtpcmilhjpmlbpaaGreatDoorQRefC
import Derived.Test.YtpcmilhjpmlbpaaGreatDoorQZoneP
set_option maxRecDepth 100000
set_option maxHeartbeats 2000000
namespace Go.Proofs.YtpcmilhjpmlbpaaGreatDoor
open Go.RowKit Go.Shelf nm
open dt (Fld)
theorem rsize_n1 (d:ByteArray)(w:World):Calls Tryz.prog 148 #[.int .u8 49,.string d] w λe w'=>e= .returned (.int .i64 (dt.xU 1 d))/\Below w.heap.size w w':=by
 by_cases h:(d.size:Int)<1
 ·go_enter Tryz.func148,Tryz.ntmps148
  go_wp2
  go_ret;exact⟨qQ (by rw[dt.xU,if_pos h]),gJ _ _⟩
 ·have h':1<=(d.size:Int):=by omega
  go_enter Tryz.func148,Tryz.ntmps148
  go_wp2
  go_ret;exact⟨qQ (by rw[dt.xU,if_neg (by omega)]),gJ _ _⟩
theorem rsize_n2 (d:ByteArray)(w:World):Calls Tryz.prog 148 #[.int .u8 50,.string d] w λe w'=>e= .returned (.int .i64 (dt.xU 2 d))/\Below w.heap.size w w':=by
 by_cases h:(d.size:Int)<2
 ·go_enter Tryz.func148,Tryz.ntmps148
  go_wp2
  go_ret;exact⟨qQ (by rw[dt.xU,if_pos h]),gJ _ _⟩
 ·have h':2<=(d.size:Int):=by omega
  go_enter Tryz.func148,Tryz.ntmps148
  go_wp2
  go_ret;exact⟨qQ (by rw[dt.xU,if_neg (by omega)]),gJ _ _⟩
theorem rsize_n4 (d:ByteArray)(w:World):Calls Tryz.prog 148 #[.int .u8 52,.string d] w λe w'=>e= .returned (.int .i64 (dt.xU 4 d))/\Below w.heap.size w w':=by
 by_cases h:(d.size:Int)<4
 ·go_enter Tryz.func148,Tryz.ntmps148
  go_wp2
  go_ret;exact⟨qQ (by rw[dt.xU,if_pos h]),gJ _ _⟩
 ·have h':4<=(d.size:Int):=by omega
  go_enter Tryz.func148,Tryz.ntmps148
  go_wp2
  go_ret;exact⟨qQ (by rw[dt.xU,if_neg (by omega)]),gJ _ _⟩
theorem rsize_ip4 (d:ByteArray)(w:World):Calls Tryz.prog 148 #[.int .u8 97,.string d] w λe w'=>e= .returned (.int .i64 (dt.xU 4 d))/\Below w.heap.size w w':=by
 by_cases h:(d.size:Int)<4
 ·go_enter Tryz.func148,Tryz.ntmps148
  go_wp2
  go_ret;exact⟨qQ (by rw[dt.xU,if_pos h]),gJ _ _⟩
 ·have h':4<=(d.size:Int):=by omega
  go_enter Tryz.func148,Tryz.ntmps148
  go_wp2
  go_ret;exact⟨qQ (by rw[dt.xU,if_neg (by omega)]),gJ _ _⟩
theorem rsize_ip16 (d:ByteArray)(w:World):Calls Tryz.prog 148 #[.int .u8 54,.string d] w λe w'=>e= .returned (.int .i64 (dt.xU 16 d))/\Below w.heap.size w w':=by
 by_cases h:(d.size:Int)<16
 ·go_enter Tryz.func148,Tryz.ntmps148
  go_wp2
  go_ret;exact⟨qQ (by rw[dt.xU,if_pos h]),gJ _ _⟩
 ·have h':16<=(d.size:Int):=by omega
  go_enter Tryz.func148,Tryz.ntmps148
  go_wp2
  go_ret;exact⟨qQ (by rw[dt.xU,if_neg (by omega)]),gJ _ _⟩
theorem KR (d:ByteArray)(w:World):Calls Tryz.prog 148 #[.int .u8 116,.string d] w λe w'=>e= .returned (.int .i64 (dt.yZ d))/\Below w.heap.size w w':=by
 by_cases h:d.size=0
 ·have b0:((d.size:Int) == 0)=true:=by rw[Hz];omega
  have H:=qe h;clear h
  go_enter Tryz.func148,Tryz.ntmps148
  go_wp2
  go_ret;exact⟨qQ (by rw[dt.yZ,if_pos H.out]),gJ _ _⟩
 ·have b0:((d.size:Int) == 0)=false:=by rw[gG];omega
  have hp:0<d.size:=by omega
  have hp':(0:Int)<(d.size:Int):=by omega
  have hs:=zF hp;have Xz:(d[0].toNat:Int)<256:=by have:=UInt8.toNat_lt d[0];omega
  have h0:(0:Int)<=(d[0].toNat:Int):=by omega
  have HS:=qe hs;clear hs;by_cases hl:(d.size:Int)<1+(d[0].toNat:Int)
  ·go_enter Tryz.func148,Tryz.ntmps148
   go_wp2
   go_ret;exact⟨qQ (by rw[dt.yZ,if_neg h,HS.out,if_pos (by omega)]),gJ _ _⟩
  ·have hl':1+(d[0].toNat:Int)<=(d.size:Int):=by omega
   go_enter Tryz.func148,Tryz.ntmps148
   go_wp2
   go_ret;exact⟨qQ (by rw[dt.yZ,if_neg h,HS.out,if_neg (by omega)]),gJ _ _⟩
theorem rsize_salt (d:ByteArray)(w:World):Calls Tryz.prog 148 #[.int .u8 115,.string d] w λe w'=>e= .returned (.int .i64 (dt.yZ d))/\Below w.heap.size w w':=by
 by_cases h:d.size=0
 ·have b0:((d.size:Int) == 0)=true:=by rw[Hz];omega
  have H:=qe h;clear h
  go_enter Tryz.func148,Tryz.ntmps148
  go_wp2
  go_ret;exact⟨qQ (by rw[dt.yZ,if_pos H.out]),gJ _ _⟩
 ·have b0:((d.size:Int) == 0)=false:=by rw[gG];omega
  have hp:0<d.size:=by omega
  have hp':(0:Int)<(d.size:Int):=by omega
  have hs:=zF hp;have Xz:(d[0].toNat:Int)<256:=by have:=UInt8.toNat_lt d[0];omega
  have h0:(0:Int)<=(d[0].toNat:Int):=by omega
  have HS:=qe hs;clear hs;by_cases hl:(d.size:Int)<1+(d[0].toNat:Int)
  ·go_enter Tryz.func148,Tryz.ntmps148
   go_wp2
   go_ret;exact⟨qQ (by rw[dt.yZ,if_neg h,HS.out,if_pos (by omega)]),gJ _ _⟩
  ·have hl':1+(d[0].toNat:Int)<=(d.size:Int):=by omega
   go_enter Tryz.func148,Tryz.ntmps148
   go_wp2
   go_ret;exact⟨qQ (by rw[dt.yZ,if_neg h,HS.out,if_neg (by omega)]),gJ _ _⟩
theorem rsize_hash (d:ByteArray)(w:World):Calls Tryz.prog 148 #[.int .u8 72,.string d] w λe w'=>e= .returned (.int .i64 (dt.Yv d))/\Below w.heap.size w w':=by
 by_cases h:d.size=0
 ·have b0:((d.size:Int) == 0)=true:=by rw[Hz];omega
  have H:=qe h;clear h
  go_enter Tryz.func148,Tryz.ntmps148
  go_wp2
  go_ret;exact⟨qQ (by rw[dt.Yv,if_pos H.out]),gJ _ _⟩
 ·have b0:((d.size:Int) == 0)=false:=by rw[gG];omega
  have hp:0<d.size:=by omega
  have hp':(0:Int)<(d.size:Int):=by omega
  have hs:=zF hp;have Xz:(d[0].toNat:Int)<256:=by have:=UInt8.toNat_lt d[0];omega
  have h0:(0:Int)<=(d[0].toNat:Int):=by omega
  have HS:=qe hs;clear hs;by_cases hz:d[0].toNat=0
  ·have b1:((d[0].toNat:Int) == 0)=true:=by rw[Hz];omega
   have hr:dt.Yv d= -1:=by rw[dt.Yv,if_neg h,HS.out,if_pos hz]
   have hl':1+(d[0].toNat:Int)<=(d.size:Int):=by omega
   have HZ:=qe hz;have HR:=qe hr;clear hz hr
   go_enter Tryz.func148,Tryz.ntmps148
   go_wp2
   go_ret;exact⟨qQ HR.out.symm,gJ _ _⟩
  ·have b1:((d[0].toNat:Int) == 0)=false:=by rw[gG];omega
   have hr:dt.Yv d=dt.yZ d:=by rw[dt.Yv,if_neg h,HS.out,if_neg hz]
   have HR:=qe hr;clear hr;by_cases hl:(d.size:Int)<1+(d[0].toNat:Int)
   ·go_enter Tryz.func148,Tryz.ntmps148
    go_wp2
    go_ret;exact⟨qQ (by rw[HR.out,dt.yZ,if_neg h,HS.out,if_pos (by omega)]),gJ _ _⟩
   ·have hl':1+(d[0].toNat:Int)<=(d.size:Int):=by omega
    go_enter Tryz.func148,Tryz.ntmps148
    go_wp2
    go_ret;exact⟨qQ (by rw[HR.out,dt.yZ,if_neg h,HS.out,if_neg (by omega)]),gJ _ _⟩
theorem rsize_hexes (d:ByteArray)(w:World):Calls Tryz.prog 148 #[.int .u8 104,.string d] w λe w'=>e= .returned (.int .i64 (dt.Qh d))/\Below w.heap.size w w':=by
 by_cases h:d.size=0
 ·have b0:=yR h;have H:=qe h;clear h
  go_enter Tryz.func148,Tryz.ntmps148
  go_wp2
  go_ret;exact⟨qQ (by rw[dt.Qh,if_pos H.out]),gJ _ _⟩
 ·have b0:=jq h
  go_enter Tryz.func148,Tryz.ntmps148
  go_wp2
  go_ret;exact⟨qQ (by rw[dt.Qh,if_neg h]),gJ _ _⟩
theorem rsize_b64 (d:ByteArray)(w:World):Calls Tryz.prog 148 #[.int .u8 98,.string d] w λe w'=>e= .returned (.int .i64 (dt.Qh d))/\Below w.heap.size w w':=by
 by_cases h:d.size=0
 ·have b0:=yR h;have H:=qe h;clear h
  go_enter Tryz.func148,Tryz.ntmps148
  go_wp2
  go_ret;exact⟨qQ (by rw[dt.Qh,if_pos H.out]),gJ _ _⟩
 ·have b0:=jq h
  go_enter Tryz.func148,Tryz.ntmps148
  go_wp2
  go_ret;exact⟨qQ (by rw[dt.Qh,if_neg h]),gJ _ _⟩
theorem rsize_tail (d:ByteArray)(w:World):Calls Tryz.prog 148 #[.int .u8 114,.string d] w λe w'=>e= .returned (.int .i64 d.size)/\Below w.heap.size w w':=by
 go_enter Tryz.func148,Tryz.ntmps148
 go_wp2
 go_ret;exact⟨rfl,gJ _ _⟩
theorem dt.two_zero {d:ByteArray}(h:2<=d.size):((d.extract 0 2).toList == [0,0])=(decide (qN d 0=0) && decide (qN d 1=0)):=by
 have h0:=zF (show 0<d.size by omega);have h1:=zF (show 1<d.size by omega);have e:(d.extract 0 2).toList= [d[0],d[1]]:=by
  rw[Lib.toList_data,zW];have l0:d.data.toList=d[0] :: d[1] :: d.data.toList.drop 2:=by
   rw[show d.data.toList=d.data.toList.drop 0 from rfl,Hf (by simpa using (show 0<d.size by omega)),Hf (by simpa using (show 1<d.size by omega))];rfl
  rw[l0];rfl
 rw[e,h0,h1]
 have z:∀c:UInt8,(c == 0)=decide (c.toNat=0):=λc=>by
  rw[Bool.eq_iff_iff,Hz,decide_eq_true_iff,<- UInt8.toNat_inj];rfl
 simp[z]
theorem rsize_kind (d:ByteArray)(w:World):Calls Tryz.prog 148 #[.int .u8 107,.string d] w λe w'=>e= .returned (.int .i64 (dt.Yt d))/\Below w.heap.size w w':=by
 by_cases h:d.size<2
 ·have h':(d.size:Int)<2:=by omega
  go_enter Tryz.func148,Tryz.ntmps148
  go_wp2
  go_ret;exact⟨qQ (by rw[dt.Yt,if_pos h]),gJ _ _⟩
 ·have h':(2:Int)<=(d.size:Int):=by omega
  have h2:=dt.two_zero (d:=d) (by omega);by_cases hz:qN d 0=0/\qN d 1=0
  ·have hr:dt.Yt d= -1:=by rw[dt.Yt,if_neg h,if_pos hz]
   rw[gF hz.1,gF hz.2]at h2;have h3:((d.extract 0 2).toList == [0,0])=true:=h2;clear h2 hz;have HR:=qe hr;clear hr
   go_enter Tryz.func148,Tryz.ntmps148
   go_wp2
   go_ret;exact⟨qQ HR.out.symm,gJ _ _⟩
  ·have hr:dt.Yt d=2:=by rw[dt.Yt,if_neg h,if_neg hz]
   have h3:((d.extract 0 2).toList == [0,0])=false:=by
    rw[h2,Bool.eq_false_iff];intro h3;simp only[gX,H7]at h3;exact hz h3
   clear h2 hz;have HR:=qe hr;clear hr
   go_enter Tryz.func148,Tryz.ntmps148
   go_wp2
   go_ret;exact⟨qQ HR.out.symm,gJ _ _⟩
theorem rsize_kinds (d:ByteArray)(hd:d.size<=65535)(w:World):Calls Tryz.prog 148 #[.int .u8 75,.string d] w λe w'=>e= .returned (.int .i64 (dt.Ze d))/\Below w.heap.size w w':=by
 cases hc:dt.ja d with
 | none=>
   have hr:dt.Ze d= -1:=by rw[dt.Ze,hc];rfl
   have HC:=qe hc;have HR:=qe hr;clear hc hr
   go_enter Tryz.func148,Tryz.ntmps148
   go_wp2_with fail;refine(rtypes_any d hd _).mono ?_;rintro e w1 ⟨hB1,hp⟩;rw[HC.out]at hp;obtain rfl:=hp;go_wp2_with fail;go_ret;exact⟨qQ HR.out.symm,hB1⟩
 | some l=>
   have hr:dt.Ze d=d.size:=by rw[dt.Ze,hc];rfl
   have HC:=qe hc;have HR:=qe hr;clear hc hr
   go_enter Tryz.func148,Tryz.ntmps148
   go_wp2_with fail;refine(rtypes_any d hd _).mono ?_;rintro e w1 ⟨hB1,hp⟩;rw[HC.out]at hp;obtain⟨v,rfl,_⟩:=hp;go_wp2_with fail;go_ret;exact⟨qQ HR.out.symm,hB1⟩
theorem rsize_host (d:ByteArray)(_hd:d.size<=65535)(w:World):Calls Tryz.prog 148 #[.int .u8 110,.string d] w λe w'=>e= .returned (.int .i64 (dt.QJ d))/\Below w.heap.size w w':=by
 go_enter Tryz.func148,Tryz.ntmps148
 go_wp2_with fail
 go_loopw [5] (λkv wr=>∃k:Nat,1<=k/\k<=256/\kv= .int .i64 (k:Int)/\(∀j,1<=j->j<k->qo (d.extract 0 j)=false)/\Below w.heap.size w wr) (λkv _=>257-(intOf kv).toNat)
 case atStart=>exact⟨1,gI _,by omega,rfl,(λj h h'=>by omega),gJ _ _⟩
 case round=>
  obtain⟨k,hk1,hk2,rfl,hno,hB⟩:=hrel;have HNO:=qe hno;have HB:=qe hB;clear hno hB;by_cases hl:(k:Int)<=(d.size:Int)
  ·by_cases h255:(k:Int)<=255
   ·have hxs:(d.extract 0 k).size<=1099511627776:=by rw[Hq];omega
    cases hc:qo (d.extract 0 k)
    ·have hn2:∀j,1<=j->j<k+1->qo (d.extract 0 j)=false:=λj h h'=>by
      rcases Nat.lt_or_ge j k with h'' | h''
      ·exact HNO.out j h h''
      ·obtain rfl:j=k:=by omega
       exact hc
     have HC:=qe hc;have HN2:=qe hn2;clear hc hn2;go_wp2_with fail;refine(zu _ hxs _).mono ?_;rintro e w2 ⟨rfl,hB2⟩;rw[HC.out];have HB2:=qe (gm HB.out hB2);clear hB2;go_wp2_with fail
     go_roundw
     case rel=>exact⟨k+1,by omega,by omega,by go_num,HN2.out,HB2.out⟩
     case measure=>simp[intOf];omega
    ·have hr:dt.QJ d=k:=dt.hostI_hit (by omega) hc;have HC:=qe hc;have HR:=qe hr;clear hc hr;go_wp2_with fail;refine(zu _ hxs _).mono ?_;rintro e w2 ⟨rfl,hB2⟩;rw[HC.out];have HB2:=qe (gm HB.out hB2);clear hB2;go_wp2_with fail;go_ret;exact⟨qQ HR.out.symm,HB2.out⟩
   ·have hr:dt.QJ d= -1:=dt.hostI_miss (.inr (by omega)) HNO.out;have h255':(255:Int)<(k:Int):=by omega
    have HR:=qe hr;clear hr;go_wp2_with fail;go_ret;exact⟨qQ HR.out.symm,HB.out⟩
  ·have hr:dt.QJ d= -1:=dt.hostI_miss (.inl (by omega)) HNO.out;have hl':(d.size:Int)<(k:Int):=by omega
   have HR:=qe hr;clear hr;go_wp2_with fail;go_ret;exact⟨qQ HR.out.symm,HB.out⟩
theorem rsize_texts (d:ByteArray)(hd:d.size<=65535)(w:World):Calls Tryz.prog 148 #[.int .u8 84,.string d] w λe w'=>e= .returned (.int .i64 (dt.Q6 d))/\Below w.heap.size w w':=by
 go_enter Tryz.func148,Tryz.ntmps148
 go_wp2_with fail
 go_loopw [6,7] (λi _ wr=>∃k f:Nat,k<=d.size/\d.size<k+f/\i= .int .i64 k/\dt.Q6 d=dt.jW d f k/\Below w.heap.size w wr) (λi _ _=>d.size-(intOf i).toNat)
 case atStart=>exact⟨0,d.size+1,by omega,by omega,rfl,rfl,gJ _ _⟩
 case round=>
  obtain⟨k,f,hk,hf,rfl,he,hb⟩:=hrel;obtain⟨f,rfl⟩:∃g,f=g+1:=⟨f-1,by omega⟩;have HE:=qe he;have HB:=qe hb;clear he hb;by_cases hlt:k<d.size
  ·rcases dt.Zy (d.extract k d.size) with hn | ⟨hn1,hn2,hn3⟩
   ·have hn':dt.yZ (d.extract k d.size)<0:=by omega
    have hfin:dt.Q6 d= -1:=by rw[HE.out,dt.V4 hlt hn']
    have HN:=qe hn;have Vf:=qe hfin;clear hn hfin;go_wp2_with (go_at_call 148;refine(KR _ _).mono ?_;rintro e w1 ⟨rfl,hB1⟩);go_ret;exact⟨qQ Vf.out.symm,HB.out.trans (hB1.mono HB.out.size)⟩
   ·rw[dt.size_extract d hk]at hn2;have hfin:dt.Q6 d=dt.jW d f (k+(dt.yZ (d.extract k d.size)).toNat):=by rw[HE.out,dt.Uq hlt (by omega)]
    have Vf:=qe hfin;clear hfin;go_wp2_with (go_at_call 148;refine(KR _ _).mono ?_;rintro e w1 ⟨rfl,hB1⟩)
    go_roundw
    case rel=>exact⟨k+(dt.yZ (d.extract k d.size)).toNat,f,by omega,by omega,by rw[Int.natCast_add,Int.toNat_of_nonneg (by omega)],Vf.out,HB.out.trans (hB1.mono HB.out.size)⟩
    case measure=>simp[intOf];omega
  ·have hke:k=d.size:=by omega
   have hfin:dt.Q6 d=if k=0 then -1 else(k:Int):=by rw[HE.out,dt.Uo (by omega)]
   have Vf:=qe hfin;clear hfin;by_cases h0:k=0
   ·have b0:((k:Int) == 0)=true:=by rw[Hz];omega
    have H0:=qe h0;clear hke h0
    go_wp2
    go_ret;exact⟨qQ (by rw[Vf.out,if_pos H0.out]),HB.out⟩
   ·have b0:((k:Int) == 0)=false:=by rw[gG];omega
    clear hke
    go_wp2
    go_ret;exact⟨qQ (by rw[Vf.out,if_neg h0]),HB.out⟩
theorem rsize_any (f:Fld)(hf:dt.goodF f=true)(d:ByteArray)(hd:d.size<=65535)(w:World):Calls Tryz.prog 148 #[.int .u8 ((dt.VH f).toNat:Int),.string d] w λe w'=>e= .returned (.int .i64 (dt.jU f d))/\Below w.heap.size w w':=by
 cases f with
 | num n=>
   simp only[dt.goodF,Bool.or_eq_true,Hz]at hf;rcases hf with(rfl | rfl) | rfl
   ·exact rsize_n1 d w
   ·exact rsize_n2 d w
   ·exact rsize_n4 d w
 | ip4=>exact rsize_ip4 d w
 | ip6=>exact rsize_ip16 d w
 | host=>exact rsize_host d hd w
 | text=>exact KR d w
 | texts=>exact rsize_texts d hd w
 | tail=>exact rsize_tail d w
 | JC=>exact rsize_hexes d w
 | b64=>exact rsize_b64 d w
 | kind=>exact rsize_kind d w
 | kinds=>exact rsize_kinds d hd w
 | Ux=>exact rsize_salt d w
 | hash=>exact rsize_hash d w
namespace dt
def YA (fs:List Fld):ByteArray:=⟨(fs.map VH).toArray⟩
theorem formS_size (fs:List Fld):(YA fs).size=fs.length:=by simp[YA,ByteArray.size]
theorem formS_get {fs:List Fld}{k:Nat}(h:k<fs.length)(h':k<(YA fs).size):(YA fs)[k]=VH fs[k]:=by
 have h2:((fs.map VH).toArray)[k]'(by simpa using h)=VH fs[k]:=by simp
 exact h2
theorem KV {t:Int}{fs:List Fld}(h:uo t=some fs):yF t=YA fs:=by unfold yF;rw[h];rfl
theorem letF_host (f:Fld):(VH f).toNat=110↔f= .host:=by
 cases f with
 | num n=>
   have h2:(VH (.num n)).toNat≠110:=by
    show(if n=1 then(49:UInt8) else if n=2 then 50 else 52).toNat≠110
    split
    ·decide
    ·split <;> decide
   exact⟨λh=>absurd h h2,λh=>by cases h⟩
 | host=>exact⟨λ_=>rfl,λ_=>rfl⟩
 | ip4=>exact⟨λh=>absurd h (by decide),λh=>by cases h⟩
 | ip6=>exact⟨λh=>absurd h (by decide),λh=>by cases h⟩
 | text=>exact⟨λh=>absurd h (by decide),λh=>by cases h⟩
 | texts=>exact⟨λh=>absurd h (by decide),λh=>by cases h⟩
 | tail=>exact⟨λh=>absurd h (by decide),λh=>by cases h⟩
 | JC=>exact⟨λh=>absurd h (by decide),λh=>by cases h⟩
 | b64=>exact⟨λh=>absurd h (by decide),λh=>by cases h⟩
 | kind=>exact⟨λh=>absurd h (by decide),λh=>by cases h⟩
 | kinds=>exact⟨λh=>absurd h (by decide),λh=>by cases h⟩
 | Ux=>exact⟨λh=>absurd h (by decide),λh=>by cases h⟩
 | hash=>exact⟨λh=>absurd h (by decide),λh=>by cases h⟩
end dt
theorem KS (fs:List Fld)(hfs:fs.length<=100)(hg:fs.all dt.goodF=true)(d:ByteArray)(hd:d.size<=65535)(w:World):Calls Tryz.prog 98 #[.string (dt.YA fs),.string d] w λe w'=>Ke fs d w e w':=by
 obtain⟨i0_s,hi_s,hz_s,hz1_s,hz2_s⟩:=info_parts Jw;have HI_s:=qe hi_s;have HZ_s:=qe hz_s;have HZ1_s:=qe hz1_s;have HZ2_s:=qe hz2_s;clear hi_s hz_s hz1_s hz2_s;obtain⟨F,hfm⟩:=yM (dt.YA fs);have hsz:F.size=fs.length:=by rw[hfm,dt.formS_size]
 rw[<- hfm];have HFM:=qe hfm;have HG:=qe hg;clear hfm hg
 go_enter Tryz.func98,Tryz.ntmps98
 go_wp2_with fail
 go_loopw [7,1,6,8] (λkv s v _ wr=>∃(k:Nat) (r:ByteArray) (acc:List ByteArray),k<=fs.length/\kv= .int .i64 k/\s= .string r/\r.size<=65535/\acc.length=k/\dt.zw fs d []=dt.zw (fs.drop k) r acc/\wr.ownsRow w.heap.size 9 1 v acc.length (acc.map .string)/\Below w.heap.size w wr) (λkv _ _ _ _=>fs.length-(intOf kv).toNat)
 case atStart=>exact⟨0,d,[],by omega,rfl,rfl,hd,rfl,rfl,gZ _ _ _ _,gJ _ _⟩
 case round=>
  obtain⟨k,r,acc,hk,rfl,rfl,hr,hacc,he,hrow,hb⟩:=hrel;obtain⟨a,cap,rfl,hcap⟩:=qj hrow;have HACC:=qe hacc;have HE:=qe he;have jG:=qe hrow;have HB:=qe hb;clear hacc he hrow hb;by_cases hlt:k<fs.length
  ·have hst:dt.zw fs d []=dt.zw (fs[k] :: fs.drop (k+1)) r acc:=by rw[HE.out,Hf hlt]
   have hle:=dt.Jj fs[k] r;have hlF:k<F.size:=by omega
   have hlF':(k:Int)<(F.size:Int):=by omega
   have hgk:dt.goodF fs[k]=true:=List.all_eq_true.1 HG.out _ (Ht hlt);have hget:F[k]=dt.VH fs[k]:=by
    have h2:∀(G:ByteArray) (h:G=dt.YA fs) (h':k<G.size),G[k]=dt.VH fs[k]:=λG h h'=>by subst h;exact dt.formS_get hlt h'
    exact h2 F HFM.out hlF
   have HC:Hid (∀W,Calls Tryz.prog 148 #[.int .u8 (F[k].toNat:Int),.string r] W λe w'=>e= .returned (.int .i64 (dt.jU fs[k] r))/\Below W.heap.size W w'):=qe λW=>by rw[hget];exact rsize_any fs[k] hgk r hr W
   by_cases hneg:dt.jU fs[k] r<0
   ·rw[dt.zw,if_pos hneg]at hst;have HST:=qe hst;have HGK:=qe hgk;have HGET:=qe hget;clear hst hgk hget;go_wp2_with fail;refine(HC.out _).mono ?_;rintro e w1 ⟨rfl,hB1⟩;go_wp2_with fail;go_ret2;exact Us HST.out (gm HB.out hB1)
   ·rw[dt.zw,if_neg hneg]at hst;have hpos:0<=dt.jU fs[k] r:=by omega
    have hal:acc.length<=100:=by have:=HACC.out;omega
    have HST:=qe hst;have HGK:=qe hgk;have HGET:=qe hget;clear hst hgk hget;clear hneg;go_wp2_with fail;refine(HC.out _).mono ?_;rintro e w1 ⟨rfl,hB1⟩;have HR1:=qe (ownsRow_below jG.out hB1);have HB1:=qe (gm HB.out hB1);clear hB1;have Zq:=qe (HB1.out.alloc HB1.out.size (.cells #[.string (r.extract 0 (dt.jU fs[k] r).toNat)] 9));have vH:=qe (qm HR1.out λb hb=>Below.heap_alloc w1 (.cells #[.string (r.extract 0 (dt.jU fs[k] r).toNat)] 9) b (HR1.out.lt b hb).2);have Zp:=qe (show acc.length+1<=maxLen from by unfold maxLen;omega);have Zm:=qe (show(acc.length+1)*16<=140737488355328 from by omega);have vG:=qe (show w.heap.size<=(w1.alloc (.cells #[.string (r.extract 0 (dt.jU fs[k] r).toNat)] 9)).heap.size from by have:=HB1.out.size;simp;omega);go_wp2_with (at_builtin;refine qW _ rfl _ _ 148 rfl w.heap.size 9 i0_s (.string ByteArray.empty) 1 16 Tryz.underlying148 HI_s.out HZ_s.out HZ1_s.out HZ2_s.out rfl (by decide) _ _ _ rfl vH.out ⟨w1.heap.size,0,none⟩ 1 1 [.string (r.extract 0 (dt.jU fs[k] r).toNat)] rfl rfl (cell_one_new _ _ _) (by simp[Value.oneCell']) Zp.out Zm.out vG.out ?_);intro v' w10 zz jg jM;have yt:=qe (Zq.out.grown jg vG.out (λj hj=>(vH.out.lt j hj).1));have zV:=qe zz;have JS:=qe jg;have QM:=qe jM;clear zz jg jM Zq vH Zp Zm vG;go_wp2_with fail
    go_roundw
    case rel=>
     refine⟨k+1,_,acc ++ [r.extract 0 (dt.jU fs[k] r).toNat],by omega,by go_num,rfl,?_,by rw[gK,HACC.out];rfl,HST.out,?_,yt.out⟩
     ·rw[Hq];omega
     ·have h:=zV.out;rw[gK,List.map_append];exact h
    case measure=>simp[intOf];omega
  ·have hke:k=fs.length:=by omega
   have hst:dt.zw fs d []=some (acc,r):=by rw[HE.out,hke,List.drop_length,dt.zw]
   have HST:=qe hst;clear hst;clear hke;by_cases h0:r.size=0
   ·have b0:=yR h0;have hc:true=decide (r.size=0):=by rw[gF h0]
    have H0:=qe h0;have HC:=qe hc;clear h0 hc;go_wp2_with fail;go_ret2;exact Qa HST.out HC.out jG.out HB.out
   ·have b0:=jq h0;have hc:false=decide (r.size=0):=by rw[gp h0]
    have H0:=qe h0;have HC:=qe hc;clear h0 hc;go_wp2_with fail;go_ret2;exact Qa HST.out HC.out jG.out HB.out
theorem chk_none {t:Int}{d:ByteArray}(h:dt.uo t=none):dt.jh t d=if dt.yH t=true then(if 65535<d.size then 7 else 0) else 6:=by
 unfold dt.jh dt.fits;rw[h];simp
theorem chk_some {t:Int}{d:ByteArray}{fs:List Fld}(h:dt.uo t=some fs):dt.jh t d=if 65535<d.size then 7 else match dt.zw fs d [] with
 | some (_,r)=>if r.size=0 then 0 else 7
 | none=>7:=by
 unfold dt.jh dt.fits;rw[h,if_pos (dt.Yy h).2.2.1]
 split
 ·rfl
 ·obtain⟨o,ho⟩:=yM (dt.zw fs d []);simp only[<- ho]
  cases o with
  | none=>simp
  | some p=>obtain⟨ps,r⟩:=p;simp
theorem form_neq {t:Int}{fs:List Fld}(h:dt.uo t=some fs):(dt.YA fs).toList.isEmpty=false/\((dt.YA fs).toList == [45])=false/\fs.length<=100:=by
 obtain⟨_,h2,_,h4⟩:=dt.Yy h;refine⟨?_,?_,dt.U1 t fs h⟩
 ·rw[Lib.toList_data]
  cases fs with
  | nil=>exact absurd rfl h2
  | cons f fs=>rfl
 ·rw[Lib.toList_data];exact beq_eq_false_iff_ne.2 h4
theorem uB (t:Int)(d:ByteArray)(w:World):Calls Tryz.prog 108 #[.int .i64 t,.string d] w λe w'=>e= .returned (.int .i64 (dt.jh t d))/\Below w.heap.size w w':=by
 cases hf:dt.uo t with
 | none=>
   have hr:=chk_none (d:=d) hf
   cases hh:dt.yH t
   ·have hfm:dt.yF t=⟨#[]⟩:=by unfold dt.yF;rw[hf,hh];rfl
    rw[hh,if_neg (by simp)]at hr;have HF:=qe hf;have HR:=qe hr;have HH:=qe hh;have HFM:=qe hfm;clear hf hr hh hfm
    go_enter Tryz.func108,Tryz.ntmps108
    go_wp2_with fail;refine(kg t _).mono ?_;rintro e w1 ⟨rfl,rfl⟩;rw[HFM.out];go_wp2_with fail;go_ret;exact⟨qQ HR.out.symm,gJ _ _⟩
   ·have hfm:dt.yF t=⟨#[45]⟩:=by unfold dt.yF;rw[hf,hh];rfl
    rw[hh,if_pos rfl]at hr;by_cases hl:65535<d.size
    ·rw[if_pos hl]at hr;have hl':(65535:Int)<(d.size:Int):=by omega
     have HF:=qe hf;have HR:=qe hr;have HH:=qe hh;have HFM:=qe hfm;clear hf hr hh hfm
     go_enter Tryz.func108,Tryz.ntmps108
     go_wp2_with fail;refine(kg t _).mono ?_;rintro e w1 ⟨rfl,rfl⟩;rw[HFM.out];go_wp2_with fail;go_ret;exact⟨qQ HR.out.symm,gJ _ _⟩
    ·rw[if_neg hl]at hr;have hl':(d.size:Int)<=65535:=by omega
     have HF:=qe hf;have HR:=qe hr;have HH:=qe hh;have HFM:=qe hfm;clear hf hr hh hfm
     go_enter Tryz.func108,Tryz.ntmps108
     go_wp2_with fail;refine(kg t _).mono ?_;rintro e w1 ⟨rfl,rfl⟩;rw[HFM.out];go_wp2_with fail;go_ret;exact⟨qQ HR.out.symm,gJ _ _⟩
 | some fs=>
   have hr:=chk_some (d:=d) hf;have hfm:=dt.KV hf;obtain⟨g1,g2,g3⟩:=form_neq hf;have hg:=(dt.Yy hf).1;obtain⟨F,hFF⟩:=yM (dt.YA fs);have hp:=λhd W=>KS fs g3 hg d hd W;rw[<- hFF]at g1 g2 hfm hp;by_cases hl:65535<d.size
   ·rw[if_pos hl]at hr;have hl':(65535:Int)<(d.size:Int):=by omega
    clear hp;have HF:=qe hf;have HR:=qe hr;have HFM:=qe hfm;have HG:=qe hg;have HFF:=qe hFF;clear hf hr hfm hg hFF
    go_enter Tryz.func108,Tryz.ntmps108
    go_wp2_with fail;refine(kg t _).mono ?_;rintro e w1 ⟨rfl,rfl⟩;rw[HFM.out];go_wp2_with fail;go_ret;exact⟨qQ HR.out.symm,gJ _ _⟩
   ·rw[if_neg hl]at hr;have hl':(d.size:Int)<=65535:=by omega
    have HP:=qe (hp (by omega));clear hp
    cases hs:dt.zw fs d [] with
    | none=>
      rw[hs]at hr;simp only at hr;have HF:=qe hf;have HR:=qe hr;have HFM:=qe hfm;have HG:=qe hg;have HFF:=qe hFF;have HS:=qe hs;clear hf hr hfm hg hFF hs
      go_enter Tryz.func108,Tryz.ntmps108
      go_wp2_with fail;refine(kg t _).mono ?_;rintro e w1 ⟨rfl,rfl⟩;rw[HFM.out];go_wp2_with fail;refine(HP.out _).mono ?_;rintro e w3 ⟨hp,hB3⟩;rw[HS.out]at hp;obtain rfl:=hp;go_wp2_with fail;go_ret;exact⟨qQ HR.out.symm,hB3⟩
    | some pr=>
      obtain⟨ps,r⟩:=pr;rw[hs]at hr;simp only at hr;by_cases h0:r.size=0
      ·have hd0:decide (r.size=0)=true:=by rw[gF h0]
       rw[if_pos h0]at hr;have HF:=qe hf;have HR:=qe hr;have HFM:=qe hfm;have HG:=qe hg;have HFF:=qe hFF;have HS:=qe hs;have HD0:=qe hd0;have H0:=qe h0;clear hf hr hfm hg hFF hs hd0 h0
       go_enter Tryz.func108,Tryz.ntmps108
       go_wp2_with fail;refine(kg t _).mono ?_;rintro e w1 ⟨rfl,rfl⟩;rw[HFM.out];go_wp2_with fail;refine(HP.out _).mono ?_;rintro e w3 ⟨hp,hB3⟩;rw[HS.out]at hp;obtain⟨v,rfl,hv⟩:=hp;rw[HD0.out];clear hv;go_wp2_with fail;go_ret;exact⟨qQ HR.out.symm,hB3⟩
      ·have hd0:decide (r.size=0)=false:=by rw[gp h0]
       rw[if_neg h0]at hr;have HF:=qe hf;have HR:=qe hr;have HFM:=qe hfm;have HG:=qe hg;have HFF:=qe hFF;have HS:=qe hs;have HD0:=qe hd0;have H0:=qe h0;clear hf hr hfm hg hFF hs hd0 h0
       go_enter Tryz.func108,Tryz.ntmps108
       go_wp2_with fail;refine(kg t _).mono ?_;rintro e w1 ⟨rfl,rfl⟩;rw[HFM.out];go_wp2_with fail;refine(HP.out _).mono ?_;rintro e w3 ⟨hp,hB3⟩;rw[HS.out]at hp;obtain⟨v,rfl,hv⟩:=hp;rw[HD0.out];clear hv;go_wp2_with fail;go_ret;exact⟨qQ HR.out.symm,hB3⟩
theorem chk_fit {t:Int}{d:ByteArray}{fs:List Fld}(hf:dt.uo t=some fs)(hc:dt.jh t d=0):d.size<=65535/\∃ps r,dt.zw fs d []=some (ps,r)/\r.size=0:=by
 rw[chk_some hf]at hc
 split at hc
 ·omega
 ·refine⟨by omega,?_⟩
  split at hc
  ·rename_i ps r h
   split at hc
   ·exact⟨ps,r,h,by assumption⟩
   ·omega
  ·omega
theorem rfoldd_form (t:Int)(d:ByteArray)(fs:List Fld)(ps:List ByteArray)(r0:ByteArray)(hchk:dt.jh t d=0)(hf:dt.uo t=some fs)(hs:dt.zw fs d []=some (ps,r0))(hr0:r0.size=0)(hd:d.size<=65535)(w:World):
 Calls Tryz.prog 175 #[.int .i64 t,.string d] w λe w'=>e= .returned (.string (dt.ym t d))/\Below w.heap.size w w':=by
 have hres:dt.ym t d=⟨(dt.zJ fs ps).toArray⟩:=by unfold dt.ym;rw[if_pos hchk,hf];simp only[hs]
 obtain⟨hpl,_,hps⟩:=dt.YL fs d [] ps r0 hs;have hpl:ps.length=fs.length:=by simpa using hpl
 have hps':∀p∈ps,p.size<=65535:=λp hp=>by
  rcases hps p hp with h | h
  ·simp at h
  ·omega
 have hfm:=dt.KV hf;obtain⟨g1,g2,g3⟩:=form_neq hf;have hg:=(dt.Yy hf).1;have hget:∀k (h:k<fs.length) (F:ByteArray) (hfm:F=dt.YA fs) (hl:k<F.size),F[k]=dt.VH fs[k]:=λk h F hfm hl=>by subst hfm;exact dt.formS_get h hl
 have hFs:=dt.formS_size fs;obtain⟨F,hFF⟩:=yM (dt.YA fs);have hp:=λW=>KS fs g3 hg d hd W;rw[<- hFF]at g1 g2 hfm hp hFs;have hd0:decide (r0.size=0)=true:=by rw[gF hr0]
 have HGET:=qe (λk h hl=>hget k h F hFF hl);clear hget;have zK:=qe hres;have HCHK:=qe hchk;have HF:=qe hf;have HS:=qe hs;have HPS:=qe hps;have HPS':=qe hps';have HPL:=qe hpl;have HFM:=qe hfm;have HG:=qe hg;have HFF:=qe hFF;have HP:=qe hp;have HD0:=qe hd0;have HR0:=qe hr0;clear hres hchk hf hs hps hps' hpl hfm hg hFF hp hd0 hr0
 go_enter Tryz.func175,Tryz.ntmps175
 go_wp2_with fail;refine(uB t d _).mono ?_;rintro e w1 ⟨rfl,hB1⟩;rw[HCHK.out];go_wp2_with fail;refine(kg t _).mono ?_;rintro e w2 ⟨rfl,rfl⟩;rw[HFM.out];go_wp2_with fail;refine(kg t _).mono ?_;rintro e w2 ⟨rfl,rfl⟩;rw[HFM.out];go_wp2_with fail;refine(HP.out _).mono ?_;rintro e w3 ⟨hp,hB3⟩;rw[HS.out]at hp;obtain⟨v,rfl,hv⟩:=hp;obtain⟨av,cv,rfl,hcv,fv⟩:=UC hv (W':=w3) (λg _=>rfl);have FV:=qe fv;have HBW:=qe (gm hB1 hB3);have hz3:=HBW.out.size;clear hv fv hB1 hB3;go_wp2_with fail
 go_loopw [34,8,9] (λkv sv _ wr=>∃(k:Nat) (s:ByteArray),k<=fs.length/\kv= .int .i64 k/\sv= .string s/\s.size<=k*65535/\s.data.toList ++ dt.zJ (fs.drop k) (ps.drop k)=dt.zJ fs ps/\Below w3.heap.size w3 wr) (λkv _ _ _=>fs.length-(intOf kv).toNat)
 case atStart=>exact⟨0,⟨#[]⟩,by omega,rfl,rfl,by decide,by simp,gJ _ _⟩
 case round=>
  obtain⟨k,s,hk,rfl,rfl,hal,hacc,hb⟩:=hrel;have HACC:=qe hacc;have HB:=qe hb;clear hacc hb;have hz:=HB.out.size;by_cases hlt:k<fs.length
  ·have hkp:k<ps.length:=by have:=HPL.out;omega
   obtain⟨gv,rfl,cx⟩:=FV.out k hkp;have cx':wr.cell? ⟨gv,k,none⟩=some (.string ps[k]):=(HB.out.cell (p:=⟨gv,k,none⟩) (Qe cx)).trans cx;have hsz:=HPS'.out ps[k] (Ht _);have hfp:=dt.ZR fs[k] ps[k];have hnx:(s ++ dt.jC fs[k] ps[k]).data.toList ++ dt.zJ (fs.drop (k+1)) (ps.drop (k+1))=dt.zJ fs ps:=by
    rw[<- HACC.out,Hf hlt,Hf hkp,dt.zJ,ByteArray.data_append,Array.toList_append,List.append_assoc]
   have hal2:(s ++ dt.jC fs[k] ps[k]).size<=(k+1)*65535:=by rw[ByteArray.size_append];omega
   have hlF:k<F.size:=by omega
   have hlF':(k:Int)<(F.size:Int):=by omega
   have hgk:=HGET.out k hlt hlF;have hb1:k*65535<=100*65535:=Nat.mul_le_mul_right _ (by omega);have hbig:s.size+(dt.jC fs[k] ps[k]).size<=1099511627776:=by omega
   have HNX:=qe hnx;have Je:=qe hal2;have CX:=qe cx;clear hnx hal2 cx;by_cases hh:fs[k]= .host
   ·have bt:((F[k].toNat:Int) == 110)=true:=by rw[hgk,hh];rfl
    have hfo:dt.jC fs[k] ps[k]=qy ps[k]:=by rw[hh];rfl
    rw[hfo]at hfp hbig;have HFO:=qe hfo;have HH:=qe hh;have HGK:=qe hgk;clear hfo hh hgk;go_wp2_with fail;refine(Vx ps[k] (by omega) _).mono ?_;rintro e w5 ⟨rfl,hB5⟩;have HB5:=qe (HB.out.trans (hB5.mono hz));clear hB5;rw[HFO.out]at HNX Je;go_wp2_with fail
    go_roundw
    case rel=>exact⟨k+1,_,by omega,by go_num,rfl,Je.out,HNX.out,HB5.out⟩
    case measure=>simp[intOf];omega
   ·have bt:((F[k].toNat:Int) == 110)=false:=by
     rw[hgk,gG];intro h;exact hh ((dt.letF_host _).1 (by omega))
    have hfo:dt.jC fs[k] ps[k]=ps[k]:=by
     cases hfk:fs[k] <;> first | rfl | exact absurd hfk hh
    rw[hfo]at hfp hbig;have HFO:=qe hfo;have HH:=qe hh;have HGK:=qe hgk;clear hfo hh hgk;rw[HFO.out]at HNX Je;go_wp2_with fail
    go_roundw
    case rel=>exact⟨k+1,_,by omega,by go_num,rfl,Je.out,HNX.out,HB.out⟩
    case measure=>simp[intOf];omega
  ·have hke:k=fs.length:=by omega
   have hfin:dt.zJ fs ps=s.data.toList:=by
    rw[<- HACC.out,hke,List.drop_length];simp[dt.zJ]
   have HKE:=qe hke;have Vf:=qe hfin;clear hke hfin;go_wp2_with fail;go_ret;exact⟨xJ (by rw[zK.out,Vf.out]),HBW.out.trans (HB.out.mono hz3)⟩
theorem YQ (t:Int)(d:ByteArray)(w:World):Calls Tryz.prog 175 #[.int .i64 t,.string d] w λe w'=>e= .returned (.string (dt.ym t d))/\Below w.heap.size w w':=by
 by_cases hc:dt.jh t d=0
 ·cases hf:dt.uo t with
  | none=>
    have hres:dt.ym t d=d:=by unfold dt.ym;rw[if_pos hc,hf]
    have hh:dt.yH t=true:=by
     rw[chk_none hf]at hc
     split at hc
     ·assumption
     ·omega
    have hfm:dt.yF t=⟨#[45]⟩:=by unfold dt.yF;rw[hf,hh];rfl
    have zK:=qe hres;have HC:=qe hc;have HF:=qe hf;have HH:=qe hh;have HFM:=qe hfm;clear hres hc hf hh hfm
    go_enter Tryz.func175,Tryz.ntmps175
    go_wp2_with fail;refine(uB t d _).mono ?_;rintro e w1 ⟨rfl,hB1⟩;rw[HC.out];have HB1:=qe hB1;clear hB1;go_wp2_with fail;refine(kg t _).mono ?_;rintro e w2 ⟨rfl,rfl⟩;rw[HFM.out];go_wp2_with fail;refine(uB t d _).mono ?_;rintro e w2 ⟨rfl,hB2⟩;rw[HC.out];have HB2:=qe (gm HB1.out hB2);clear hB2;go_wp2_with fail;go_ret;exact⟨xJ zK.out.symm,HB2.out⟩
  | some fs=>
    obtain⟨hd,ps,r,hs,hr⟩:=chk_fit hf hc;exact rfoldd_form t d fs ps r hc hf hs hr hd w
 ·have hres:dt.ym t d=ByteArray.empty:=by unfold dt.ym;rw[if_neg hc]
  have hb:(dt.jh t d == 0)=false:=by rw[gG];exact hc
  have hb':(dt.jh t d != 0)=true:=by rw[bne_iff_ne];exact hc
  have zK:=qe hres;have HC:=qe hc;clear hres hc
  go_enter Tryz.func175,Tryz.ntmps175
  go_wp2_with fail;refine(uB t d _).mono ?_;rintro e w1 ⟨rfl,hB1⟩;have HB1:=qe hB1;clear hB1;go_wp2_with fail;refine(uB t d _).mono ?_;rintro e w2 ⟨rfl,hB2⟩;have HB2:=qe (gm HB1.out hB2);clear hB2;go_wp2_with fail;go_ret;exact⟨xJ zK.out.symm,HB2.out⟩
end Go.Proofs.YtpcmilhjpmlbpaaGreatDoor
