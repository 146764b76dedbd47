import Derived.Test.YtpcmilhjpmlbpaaGreatDoorQNameE
import Derived.LoopNIn
import Derived.Maps.AppendAt
import Derived.Deep.RegionWith
set_option maxRecDepth 100000
set_option maxHeartbeats 4000000
namespace Go.Proofs.YtpcmilhjpmlbpaaGreatDoor
open Go.RowKit Go.Shelf nm
theorem info_int:(Tryz.prog.info? 3).map (λi=>(i.zero,i.size,i.bytes))=some (some (.int .i64 0),1,8):=by kernel_rfl
theorem bit_dec (x e:Nat)(hx:x<256):(bits BinOp.and IntKind.u8 ((x:Int) / 2 ^ e) 1 == 1)=decide (x / 2 ^ e % 2=1):=by
 have h1:((x:Int) / 2 ^ e)=((x / 2 ^ e:Nat):Int):=by rw[Int.natCast_ediv,Int.natCast_pow];rfl
 have hlt:x / 2 ^ e<256:=Nat.lt_of_le_of_lt (Nat.div_le_self _ _) hx;rw[h1]
 generalize x / 2 ^ e=y at *
 have h2:bits BinOp.and IntKind.u8 (y:Int) 1=((y % 2:Nat):Int):=by
  show IntKind.u8.wrap ((BitVec.ofInt 8 (y:Int) &&& BitVec.ofInt 8 1).toNat:Int)=_;rw[BitVec.toNat_and,BitVec.ofInt_natCast,BitVec.toNat_ofNat,Nat.mod_eq_of_lt (by omega:y<2 ^ 8),show(BitVec.ofInt 8 1).toNat=1 from rfl,Nat.and_one_is_mod,IntKind.wrap_u8];omega
 rw[h2];by_cases h:y % 2=1
 ·rw[gF h,Hz];omega
 ·rw[gp h,gG];omega
theorem ZN {W:World}{base:Nat}{e:TypeId}{size:Nat}{v:Value}{n:Nat}{xs:List Value}(h:W.ownsRow base e size v n xs){j:Nat}(ej:v.ownBlock=some j):base<=j:=by
 rcases h.2 with⟨rfl,_⟩|⟨g,cap,cur,rfl,hbg,_⟩
 ·simp[Value.ownBlock]at ej
 ·obtain rfl:g=j:=by simpa[Value.ownBlock] using ej
  exact hbg
def VW (d:ByteArray)(w:World)(e:Ending)(w':World):Prop:=
 (∃v:Value,e= .returned (.tuple #[v,.int .i64 (if(dt.ja d).isSome=true then 0 else 7)]))/\Below w.heap.size w w'
theorem kJ {d:ByteArray}{w w':World}(v:Value)(h:dt.ja d=none)(hb:Below w.heap.size w w'):VW d w (.returned (.tuple #[v,.int .i64 7])) w':=⟨⟨v,by rw[h];rfl⟩,hb⟩
theorem ZL {d:ByteArray}{w w':World}{l:List Int}(v:Value)(h:dt.ja d=some l)(hb:Below w.heap.size w w'):VW d w (.returned (.tuple #[v,.int .i64 0])) w':=⟨⟨v,by rw[h];rfl⟩,hb⟩
theorem row_cell0 {w:World}{g:Nat}{cur:Array Value}{e:TypeId}{a:Value}{l:List Value}{n:Nat}(hg:w.heap[g]? =some (.cells cur e (0,0)))(h:cur.toList.take n=a :: l):w.cell? ⟨g,0,none⟩=some a:=by
 rw[qg hg];have h2:=congrArg (·[0]?) h;simp only[List.getElem?_cons_zero]at h2;rw[List.getElem?_take]at h2
 split at h2
 ·simpa using h2
 ·cases h2
theorem types_any (d:ByteArray)(hd:d.size<=65535)(w:World):Calls Tryz.prog 255 #[.string d] w λe W'=>VW d w e W':=by
 obtain⟨i0,hi,hz0,hz1,hz2⟩:=info_parts info_int;have HI:=qe hi;have HZ:=qe hz0;have HZ1:=qe hz1;have HZ2:=qe hz2;clear hi hz0 hz1 hz2
 go_enter Tryz.func255,Tryz.ntmps255
 go_wp2
 go_loopw [0,4,5,6] (λs v l _ wr=>∃(r:ByteArray) (f:Nat) (last:Int) (acc:List Int),r.size<=d.size/\r.size<f/\-1<=last/\last<=255/\s= .string r/\l= .int .i64 last/\
  dt.jd (d.size+1) d (-1) []=dt.jd f r last acc/\(acc.length+8*r.size<=8*d.size)/\wr.ownsRow w.heap.size 3 1 v acc.length (acc.map (Value.int .i64))/\Below w.heap.size w wr) (λs _ _ _ _=>match s with | .string r=>r.size | _=>0)
 case atStart=>exact⟨d,d.size+1,-1,[],gI _,by omega,by omega,by omega,rfl,rfl,rfl,by simp,gZ _ _ _ _,gJ _ _⟩
 case round=>
  obtain⟨r,f,last,acc,hr,hf,hl1,hl2,rfl,rfl,he,hn,hrow,hb⟩:=hrel;obtain⟨f,rfl⟩:∃g,f=g+1:=⟨f-1,by omega⟩;have HE:=qe he;have HB:=qe hb;have HR:=qe hrow;clear he hb hrow;by_cases h0:r.size=0
  ·have b0:=yR h0;have hgo:dt.jd (d.size+1) d (-1) []=some acc:=by rw[HE.out,dt.Zw h0]
   have HG:=qe hgo;clear hgo h0;rcases HR.out with⟨hln,⟨rfl,hnil⟩|⟨g,cap,cur,rfl,hbg,hg,hnc,hcm,hcs,htake⟩⟩
   ·have ha:acc= []:=Hm hnil;subst ha;have hty:dt.ja d=some []:=by unfold dt.ja;rw[HG.out];simp
    have HT:=qe hty;clear hty hnil
    go_wp2
    go_ret2;exact ZL _ HT.out HB.out
   ·have HTK:=qe htake;have HG2:=qe hg;have HCS:=qe hcs;clear htake hg hcs
    cases acc with
    | nil=>
      have hty:dt.ja d=some []:=by unfold dt.ja;rw[HG.out];simp
      have HT:=qe hty;clear hty
      go_wp2
      go_ret2;exact ZL _ HT.out HB.out
    | cons a acc=>
      have hc0:wr.cell? ⟨g,0,none⟩=some (.int .i64 a):=row_cell0 HG2.out (by rw[HTK.out];rfl);have hpos:(0:Int)<((a :: acc).length:Nat):=by simp
      by_cases h00:a=0
      ·have b1:(a == 0)=true:=by rw[Hz];exact h00
       have hty:dt.ja d=none:=by unfold dt.ja;rw[HG.out];simp[h00]
       have HT:=qe hty;clear hty h00
       go_wp2
       go_ret2;exact kJ _ HT.out HB.out
      ·have b1:(a == 0)=false:=by rw[gG];exact h00
       have hty:dt.ja d=some (a :: acc):=by unfold dt.ja;rw[HG.out];simp[h00]
       have HT:=qe hty;clear hty h00
       go_wp2
       go_ret2;exact ZL _ HT.out HB.out
  ·have b0:=jq h0;by_cases hbad:dt.um r last
   ·have hty:dt.ja d=none:=by unfold dt.ja;rw[HE.out,dt.Qg h0 hbad]
    have HT:=qe hty;clear hty;unfold dt.um at hbad;by_cases k3:(r.size:Int)<3
    ·clear hbad
     go_wp2
     go_ret2;exact kJ _ HT.out HB.out
    ·have g0:0<r.size:=by omega
     have g1:1<r.size:=by omega
     have s0:=zF g0;have s1:=zF g1;have k3':(3:Int)<=r.size:=by omega
     have t6:(r[0].toNat:Int)<256:=by have:=UInt8.toNat_lt r[0];omega
     have t7:(r[1].toNat:Int)<256:=by have:=UInt8.toNat_lt r[1];omega
     have S0:=qe s0;have S1:=qe s1;rw[s1]at hbad;rw[s0]at hbad;clear s0 s1;by_cases k4:(r[0].toNat:Int)<=last
     ·clear hbad
      go_wp2
      go_ret2;exact kJ _ HT.out HB.out
     ·by_cases k5:(r[1].toNat:Int)<1
      ·clear hbad
       go_wp2
       go_ret2;exact kJ _ HT.out HB.out
      ·by_cases k6:32<(r[1].toNat:Int)
       ·clear hbad
        go_wp2
        go_ret2;exact kJ _ HT.out HB.out
       ·by_cases k7:(r.size:Int)<2+(r[1].toNat:Int)
        ·clear hbad
         go_wp2
         go_ret2;exact kJ _ HT.out HB.out
        ·have g2:1+r[1].toNat<r.size:=by omega
         have s2:=zF g2;have b5:((r[1+r[1].toNat].toNat:Int) == 0)=true:=by rw[Hz];omega
         clear hbad s2
         go_wp2
         go_ret2;exact kJ _ HT.out HB.out
   ·have hnext:=dt.QN (f:=f) (acc:=acc) h0 hbad;unfold dt.um at hbad;have g0:0<r.size:=by omega
    have g1:1<r.size:=by omega
    have s0:=zF g0;have s1:=zF g1;have g2:1+r[1].toNat<r.size:=by omega
    have s2:=zF g2;rw[s1]at hbad;rw[s2,s0]at hbad;have t0:(3:Int)<=r.size:=by omega
    have t1:last<(r[0].toNat:Int):=by omega
    have t2:(1:Int)<=(r[1].toNat:Int):=by omega
    have t3:(r[1].toNat:Int)<=32:=by omega
    have t4:(2:Int)+(r[1].toNat:Int)<=r.size:=by omega
    have t5:((r[1+r[1].toNat].toNat:Int) == 0)=false:=by rw[gG];omega
    have t6:(r[0].toNat:Int)<256:=by have:=UInt8.toNat_lt r[0];omega
    have t8:0<=(r[0].toNat:Int):=by omega
    rw[s1,s0]at hnext;have HN:=qe hnext;have S0:=qe s0;have S1:=qe s1;have S2:=qe s2;clear hnext s0 s1 s2 hbad
    go_wp2
    obtain⟨wo,hwo⟩:=yM wr;subst hwo
    go_loopw [54,4,6] (λc v _ wi=>∃k:Nat,k<=8*r[1].toNat/\c= .int .i64 k/\wi.ownsRow w.heap.size 3 1 v (acc ++ dt.yI r k).length ((acc ++ dt.yI r k).map (Value.int .i64))/\Below w.heap.size w wi) (λc _ _ _=>8*r[1].toNat-(intOf c).toNat)
    case atStart=>exact⟨0,by omega,rfl,by simpa[dt.yI] using HR.out,HB.out⟩
    case round=>
     obtain⟨k,hk,rfl,hrow,hb⟩:=hrel;have hlenk:=dt.blockL_len r k;have HR2:=qe hrow;have HB2:=qe hb;clear hrow hb;by_cases hlt:k<8*r[1].toNat
     ·have u1:(k:Int)<8*(r[1].toNat:Int):=by omega
      have g3:2+k / 8<r.size:=by omega
      have g4:(2:Int)+(k:Int) / 8<r.size:=by omega
      have hs3:=zF g3;have hbd:=bit_dec r[2+k / 8].toNat (7-k % 8) (UInt8.toNat_lt _);have hbs:=dt.Xr r k
      cases hbit:dt.bitB r k
      ·have hb2:(bits BinOp.and IntKind.u8 ((r[2+k / 8].toNat:Int) / 2 ^ (7-k % 8)) 1 == 1)=false:=by
        rw[hbd,<- hs3];exact hbit
       rw[hbit]at hbs;have hrow':wr.ownsRow w.heap.size 3 1 u4 (acc ++ dt.yI r (k+1)).length ((acc ++ dt.yI r (k+1)).map (Value.int .i64)):=by
        rw[hbs];simpa using HR2.out
       have HRW:=qe hrow';have HS3:=qe hs3;have HBD:=qe hbd;have HBS:=qe hbs;have HBI:=qe hbit;clear hs3 hbd hbs hbit hrow'
       go_wp2
       go_roundw
       case rel=>exact⟨k+1,by omega,by go_num,HRW.out,HB2.out⟩
       case measure=>simp[intOf];omega
      ·have hb2:(bits BinOp.and IntKind.u8 ((r[2+k / 8].toNat:Int) / 2 ^ (7-k % 8)) 1 == 1)=true:=by
        rw[hbd,<- hs3];exact hbit
       rw[hbit,if_pos rfl]at hbs;have q1:(acc ++ dt.yI r k).length+1<=maxLen:=by simp only[maxLen,gK];omega
       have q2:((acc ++ dt.yI r k).length+1)*8<=140737488355328:=by simp only[gK];omega
       have Q1:=qe q1;have Q2:=qe q2;have hval:(((qN r 0*256+k:Nat):Int))=(r[0].toNat:Int)*256+k:=by rw[S0.out];omega
       have HV:=qe hval;have HS3:=qe hs3;have HBD:=qe hbd;have HBS:=qe hbs;have HBI:=qe hbit;clear hs3 hbd hbs hbit q1 q2 hval hlenk;go_wp2_with (at_builtin;refine wpList_append_own _ rfl _ _ 88 rfl w.heap.size 3 i0 (.int .i64 0) 1 8 Tryz.underlying88 HI.out HZ.out HZ1.out HZ2.out rfl (by decide) _ _ _ rfl (HR2.out.alloc _) ⟨wr.heap.size,0,none⟩ 1 1 [.int .i64 ((r[0].toNat:Int)*256+k)] rfl rfl (cell_one_new _ _ _) (by simp[Value.oneCell']) Q1.out Q2.out (by have:=HB2.out.size;simp;omega) ?_;intro v' w1 hown' hgrow _;have HO:=qe hown';have HG:=qe hgrow;clear hown' hgrow)
       go_roundw
       case rel=>
        refine⟨k+1,by omega,by go_num,?_,?_⟩
        ·have h:=HO.out;rw[HBS.out,HV.out]
         simpa[Nat.add_assoc] using h
        ·refine(HB2.out.alloc HB2.out.size _).grown HG.out (by have:=HB2.out.size;simp;omega) (λj ej=>?_);exact ZN HR2.out ej
       case measure=>simp[intOf];omega
     ·have hke:k=8*r[1].toNat:=by omega
      have HKE:=qe hke;clear hke;have HNX:Hid (dt.jd (d.size+1) d (-1) []=dt.jd f (r.extract (2+r[1].toNat) r.size) (r[0].toNat) (acc ++ dt.yI r k)):=by
       unfold Hid;rw[HE.out,HN.out,HKE.out]
      have hsx:(r.extract (2+r[1].toNat) r.size).size=r.size-(2+r[1].toNat):=dt.size_extract r (by omega);have HSX:=qe hsx;clear hsx
      go_wp2
      go_roundw
      case rel=>exact⟨_,f,_,_,by rw[HSX.out];omega,by rw[HSX.out];omega,by omega,by omega,rfl,rfl,HNX.out,by rw[HSX.out,gK];omega,HR2.out,HB2.out⟩
      case measure=>show(r.extract (2+r[1].toNat) r.size).size<r.size;rw[HSX.out];omega
theorem kinds_take (d:ByteArray)(hd:d.size<=65535)(w:World):Calls Tryz.prog 254 #[.agg #[],.string d] w λe W'=>e= .returned (.int .i64 (dt.Ze d))/\Below w.heap.size w W':=by
 have hB:=qe ((gJ _ w).alloc (gI _) (.cells #[] 246))
 cases hc:(dt.ja d).isSome
 ·have HC:=qe hc;clear hc
  go_enter Tryz.func254,Tryz.ntmps254
  go_wp2_with (go_at_call 255;refine(types_any d hd _).mono ?_;rintro e w1 ⟨⟨v,rfl⟩,hB1⟩;rw[HC.out,if_neg (by simp)]);go_ret;exact⟨qQ (by rw[dt.Ze,HC.out];rfl),hB.out.trans (hB1.mono hB.out.size)⟩
 ·have HC:=qe hc;clear hc
  go_enter Tryz.func254,Tryz.ntmps254
  go_wp2_with (go_at_call 255;refine(types_any d hd _).mono ?_;rintro e w1 ⟨⟨v,rfl⟩,hB1⟩;rw[HC.out,if_pos rfl]);go_ret;exact⟨qQ (by rw[dt.Ze,HC.out];rfl),hB.out.trans (hB1.mono hB.out.size)⟩
namespace dt
def jO (d:ByteArray):Nat->Nat
 | 0=>0
 | k+1=>jO d k*256+qN d k
theorem Um (d:ByteArray)(k:Nat):jO d k<256 ^ k:=by
 induction k with
 | zero=>simp[jO]
 | succ k ih=>
   have:qN d k<256:=UInt8.toNat_lt _;rw[jO,Nat.pow_succ];omega
end dt
theorem ofInt_i64 (a:Nat)(ha:a<9223372036854775808):(BitVec.ofInt 64 (a:Int)).toNat=a:=by
 rw[BitVec.ofInt_natCast,BitVec.toNat_ofNat];exact Nat.mod_eq_of_lt (by omega)
theorem or_byte (v b:Nat)(hv:v<1099511627776)(hb:b<256):bits BinOp.or IntKind.i64 ((v:Int)*256) (b:Int)=((v*256+b:Nat):Int):=by
 have h1:((v:Int)*256)=((v*256:Nat):Int):=by omega
 rw[h1];show IntKind.i64.wrap ((BitVec.ofInt 64 ((v*256:Nat):Int) ||| BitVec.ofInt 64 (b:Int)).toNat:Int)=_;have h2:v*256 ||| b=v*256+b:=by
  have:=Nat.two_pow_add_eq_or_of_lt (i:=8) (b:=b) (by omega) v;rw[show(2:Nat) ^ 8=256 from rfl,Nat.mul_comm]at this;exact this.symm
 rw[BitVec.toNat_or,ofInt_i64 _ (by omega),ofInt_i64 _ (by omega),h2,IntKind.wrap_i64];omega
theorem small_any (d:ByteArray)(h2:d.size<=6)(w:World):Calls Tryz.prog 248 #[.string d] w λe W'=>e= .returned (.int .i64 (dt.jO d d.size))/\w=W':=by
 go_enter Tryz.func248,Tryz.ntmps248
 go_wp2
 go_loop [7,3,4] (λc v _=>∃k:Nat,k<=d.size/\c= .int .i64 k/\v= .int .i64 (dt.jO d k)) (λc _ _=>d.size-(intOf c).toNat)
 case atStart=>exact⟨0,gU _,rfl,rfl⟩
 case round=>
  obtain⟨k,hk,rfl,rfl⟩:=hrel;by_cases hlt:k<d.size
  ·have hv:dt.jO d k<256 ^ 5:=gN (dt.Um d k) (Nat.pow_le_pow_right (by omega) (by omega));have hv2:dt.jO d k<1099511627776:=gN hv (by decide);have hv3:(dt.jO d k:Int)<1099511627776:=by omega
   have hs:=zF hlt;have HS:=qe hs;have HV:=qe hv;clear hs hv;have Xz:(d[k].toNat:Int)<256:=by have:=UInt8.toNat_lt d[k];omega
   have hor:=or_byte (dt.jO d k) d[k].toNat hv2 (UInt8.toNat_lt _);rw[<- HS.out]at hor;have hnx:(((dt.jO d k*256+qN d k:Nat)):Int)=(dt.jO d (k+1):Nat):=rfl;rw[hnx,HS.out]at hor;have HOR:=qe hor;clear hor hnx
   go_wp2
   go_round
   case rel=>exact⟨k+1,by omega,by go_num,by rw[HOR.out]⟩
   case measure=>simp[intOf];omega
  ·have hke:k=d.size:=by omega
   subst hke
   go_wp2
   go_ret;exact⟨rfl,rfl⟩
theorem kind_take (d:ByteArray)(w:World):Calls Tryz.prog 247 #[.agg #[],.string d] w λe W'=>e= .returned (.int .i64 (dt.Yt d))/\Below w.heap.size w W':=by
 have hB:=qe ((gJ _ w).alloc (gI _) (.cells #[] 244));by_cases h:d.size<2
 ·have h':(d.size:Int)<2:=by omega
  go_enter Tryz.func247,Tryz.ntmps247
  go_wp2
  go_ret;exact⟨qQ (by rw[dt.Yt,if_pos h]),hB.out⟩
 ·have h':(2:Int)<=d.size:=by omega
  have hsx:(d.extract 0 2).size=2:=by rw[Hq];omega
  have e0:qN (d.extract 0 2) 0=qN d 0:=by
   unfold qN;rw[zW];simp
  have e1:qN (d.extract 0 2) 1=qN d 1:=by
   unfold qN;rw[zW];simp
  have hval:(dt.jO (d.extract 0 2) (d.extract 0 2).size:Int)=(qN d 0:Int)*256+(qN d 1:Int):=by
   rw[hsx];simp[dt.jO,e0,e1]
  have HX:=qe hsx;have HV:=qe hval;clear hsx e0 e1 hval;by_cases hz:qN d 0=0/\qN d 1=0
  ·have b1:((qN d 0:Int)*256+(qN d 1:Int) == 0)=true:=by rw[Hz];omega
   have HZ:=qe hz;clear hz
   go_enter Tryz.func247,Tryz.ntmps247
   go_wp2_with (go_at_call 248;refine(small_any _ (by rw[HX.out];omega) _).mono ?_;rintro e w1 ⟨rfl,rfl⟩;rw[HV.out]);go_ret;exact⟨qQ (by rw[dt.Yt,if_neg h,if_pos HZ.out]),hB.out⟩
  ·have b1:((qN d 0:Int)*256+(qN d 1:Int) == 0)=false:=by rw[gG];omega
   have HZ:=qe hz;clear hz
   go_enter Tryz.func247,Tryz.ntmps247
   go_wp2_with (go_at_call 248;refine(small_any _ (by rw[HX.out];omega) _).mono ?_;rintro e w1 ⟨rfl,rfl⟩;rw[HV.out]);go_ret;exact⟨qQ (by rw[dt.Yt,if_neg h,if_neg HZ.out]),hB.out⟩
namespace dt
def jU (f:Fld)(d:ByteArray):Int:=match f with
 | .num n=>xU n d
 | .ip4=>xU 4 d
 | .ip6=>xU 16 d
 | .host=>QJ d
 | .text=>yZ d
 | .texts=>Q6 d
 | .tail=>(d.size:Int)
 | .JC=>Qh d
 | .b64=>Qh d
 | .kind=>Yt d
 | .kinds=>Ze d
 | .Ux=>yZ d
 | .hash=>Yv d
def zw:List Fld->ByteArray->List ByteArray->Option (List ByteArray×ByteArray)
 | [],d,acc=>some (acc,d)
 | f :: fs,d,acc=>if jU f d<0 then none else zw fs (d.extract (jU f d).toNat d.size) (acc ++ [d.extract 0 (jU f d).toNat])
theorem textsGo_le (d:ByteArray):∀(f k:Nat),k<=d.size->jW d f k<=d.size:=by
 intro f
 induction f with
 | zero=>intro k _;simp[jW]
 | succ f ih=>
   intro k hk;rw[jW]
   split
   ·split
    ·omega
    ·rcases Zy (d.extract k d.size) with h | ⟨h1,h2,h3⟩
     ·omega
     ·rw[size_extract d hk]at h2;exact ih _ (by omega)
   ·split <;> omega
theorem Jj (f:Fld)(d:ByteArray):jU f d<=d.size:=by
 have ht:=Zy d;have hn:∀n,xU n d<=d.size:=λn=>by unfold xU;split <;> omega
 cases f with
 | num n=>exact hn n
 | ip4=>exact hn 4
 | ip6=>exact hn 16
 | host=>show QJ d<=_;unfold QJ;split <;> (try split) <;> omega
 | text=>show yZ d<=_;omega
 | texts=>exact textsGo_le d _ 0 (gU _)
 | tail=>exact Int.le_refl _
 | JC=>show Qh d<=_;unfold Qh;split <;> omega
 | b64=>show Qh d<=_;unfold Qh;split <;> omega
 | kind=>show Yt d<=_;unfold Yt;split <;> (try split) <;> omega
 | kinds=>show Ze d<=_;unfold Ze;split <;> omega
 | Ux=>show yZ d<=_;omega
 | hash=>show Yv d<=_;unfold Yv;split <;> (try split) <;> omega
end dt
open dt (Fld)
def takeFn:Fld->FuncId
 | .num _=>228
 | .ip4=>231
 | .ip6=>240
 | .host=>225
 | .text=>234
 | .texts=>237
 | .tail=>264
 | .JC=>243
 | .b64=>251
 | .kind=>247
 | .kinds=>254
 | .Ux=>258
 | .hash=>261
theorem take_any (f:Fld)(d:ByteArray)(hd:d.size<=65535)(w:World):Calls Tryz.prog (takeFn f) #[recvF f,.string d] w λe W'=>e= .returned (.int .i64 (dt.jU f d))/\Below w.heap.size w W':=by
 cases f with
 | num n=>exact(Jr n d w).mono λe w' ⟨h,hw⟩=>⟨h,hw ▸ gJ _ _⟩
 | ip4=>exact ip4_take d w
 | ip6=>exact ip6_take d w
 | host=>exact host_take d hd w
 | text=>exact Yf d w
 | texts=>exact texts_take d hd w
 | tail=>exact tail_take d w
 | JC=>exact hexes_take d w
 | b64=>exact b64_take d w
 | kind=>exact kind_take d w
 | kinds=>exact kinds_take d hd w
 | Ux=>exact salt_take d w
 | hash=>exact hash_take d w
theorem method_take (f:Fld)(w:World):(method 395 (tyF f) (recvF f) "gazetteer/data.take").run Tryz.prog w= .ok (takeFn f,recvF f) w:=by
 cases f <;> kernel_rfl
theorem call_take (f:Fld)(args:Array Value)(w:World):(callFunc (takeFn f) args).run Tryz.prog w= .ok (.enter (takeFn f) args) w:=by
 cases f <;> kernel_rfl
theorem ownsRow_below {w w':World}{base:Nat}{e:TypeId}{size:Nat}{v:Value}{n:Nat}{xs:List Value}(h:w.ownsRow base e size v n xs)(hb:Below w.heap.size w w'):w'.ownsRow base e size v n xs:=by
 refine⟨h.1,?_⟩;rcases h.2 with hn | ⟨g,cap,cur,hv,hg,hk,rest⟩
 ·exact .inl hn
 ·exact .inr ⟨g,cap,cur,hv,hg,(hb.block g (qA hk)).trans hk,rest⟩
def FldRow (w:World)(b:Nat)(fs:List Fld):Prop:=∀j (h:j<fs.length),w.cell? ⟨b,j,none⟩=some (encF fs[j])
def Ke (fs:List Fld)(d:ByteArray)(w:World)(e:Ending)(w':World):Prop:=
 (match dt.zw fs d [] with
 | some (ps,r)=>∃v,e= .returned (.tuple #[v,.bool (decide (r.size=0))])/\w'.ownsRow w.heap.size 9 1 v ps.length (ps.map .string)
 | none=>e= .returned (.tuple #[.slice none 0 0,.bool false]))/\Below w.heap.size w w'
theorem Us {fs:List Fld}{d:ByteArray}{w w':World}(h:dt.zw fs d []=none)(hb:Below w.heap.size w w'):Ke fs d w (.returned (.tuple #[.slice none 0 0,.bool false])) w':=⟨by rw[h],hb⟩
theorem Qa {fs:List Fld}{d:ByteArray}{w w':World}{ps:List ByteArray}{r:ByteArray}{v:Value}{c:Bool}(h:dt.zw fs d []=some (ps,r))(hc:c=decide (r.size=0))(hv:w'.ownsRow w.heap.size 9 1 v ps.length (ps.map .string))(hb:Below w.heap.size w w'):Ke fs d w (.returned (.tuple #[v,.bool c])) w':=⟨by rw[h];exact⟨v,by rw[hc],hv⟩,hb⟩
theorem JY (fs:List Fld)(hfs:fs.length<=100)(d:ByteArray)(hd:d.size<=65535)(b:Nat)(w:World)(hc:FldRow w b fs)(hbw:b<w.heap.size):Calls Tryz.prog 151 #[.slice (some ⟨b,0,none⟩) fs.length fs.length,.string d] w λe W'=>Ke fs d w e W':=by
 obtain⟨i0,hi,hz0,hz1,hz2⟩:=info_parts Jw;have HI:=qe hi;have HZ:=qe hz0;have HZ1:=qe hz1;have HZ2:=qe hz2;have HC:=qe hc;clear hi hz0 hz1 hz2 hc
 go_enter Tryz.func151,Tryz.ntmps151
 go_wp2
 go_loopw [12,1,6,8,9] (λkv s v _ _ wr=>∃(k:Nat) (r:ByteArray) (acc:List ByteArray),k<=fs.length/\kv= .int .i64 k/\s= .string r/\r.size<=65535/\acc.length=k/\dt.zw fs d []=dt.zw (fs.drop k) r acc/\wr.ownsRow w.heap.size 9 1 v acc.length (acc.map .string)/\Below w.heap.size w wr) (λkv _ _ _ _ _=>fs.length-(intOf kv).toNat)
 case atStart=>exact⟨0,d,[],by omega,rfl,rfl,hd,rfl,rfl,gZ _ _ _ _,gJ _ _⟩
 case round=>
  obtain⟨k,r,acc,hk,rfl,rfl,hr,hacc,he,hrow,hb⟩:=hrel;have HA:=qe hacc;have HE:=qe he;have HR:=qe hrow;have HB:=qe hb;clear hacc he hrow hb;by_cases hlt:k<fs.length
  ·have hcell:wr.cell? ⟨b,k,none⟩=some (encF fs[k]):=(HB.out.cell (p:=⟨b,k,none⟩) hbw).trans (HC.out k hlt);have hst:dt.zw fs d []=dt.zw (fs[k] :: fs.drop (k+1)) r acc:=by rw[HE.out,Hf hlt]
   have hm:=method_take fs[k];have hcf:=call_take fs[k];have hle:=dt.Jj fs[k] r;by_cases hneg:dt.jU fs[k] r<0
   ·rw[dt.zw,if_pos hneg]at hst;have HS:=qe hst;clear hst;go_wp2_with fail;refine(take_any _ _ hr _).mono ?_;rintro e w1 ⟨rfl,hB1⟩;go_wp2_with fail;go_ret2;exact Us HS.out (gm HB.out hB1)
   ·rw[dt.zw,if_neg hneg]at hst;have hpos:0<=dt.jU fs[k] r:=by omega
    have HS:=qe hst;clear hst hneg;have q1:acc.length+1<=maxLen:=by have:=HA.out;simp only[maxLen];omega
    have q2:(acc.length+1)*16<=140737488355328:=by have:=HA.out;omega
    have Q1:=qe q1;have Q2:=qe q2;clear q1 q2;go_wp2_with fail;refine(take_any _ _ hr _).mono ?_;rintro e w1 ⟨rfl,hB1⟩;have hR1:=ownsRow_below HR.out hB1;have HR1:=qe hR1;have HB1:=qe (gm HB.out hB1);clear hR1;go_wp2_with (at_builtin;refine wpList_append_own _ rfl _ _ 148 rfl w.heap.size 9 i0 (.string ByteArray.empty) 1 16 Tryz.underlying148 HI.out HZ.out HZ1.out HZ2.out rfl (by decide) _ _ _ rfl (HR1.out.alloc _) ⟨w1.heap.size,0,none⟩ 1 1 [.string (r.extract 0 (dt.jU fs[k] r).toNat)] rfl rfl (cell_one_new _ _ _) (by simp[Value.oneCell']) Q1.out Q2.out (by have:=HB1.out.size;simp;omega) ?_;intro v' w2 hown' hgrow _;have HO:=qe hown';have HG:=qe hgrow;clear hown' hgrow)
    go_roundw
    case rel=>
     refine⟨k+1,_,acc ++ [r.extract 0 (dt.jU fs[k] r).toNat],by omega,by go_num,rfl,?_,by rw[gK,HA.out];rfl,HS.out,?_,?_⟩
     ·rw[Hq];omega
     ·have h:=HO.out
      simpa using h
     ·exact(HB1.out.alloc HB1.out.size _).grown HG.out (by have:=HB1.out.size;simp;omega) (λj ej=>ZN HR1.out ej)
    case measure=>simp[intOf];omega
  ·have hke:k=fs.length:=by omega
   have hst:dt.zw fs d []=some (acc,r):=by rw[HE.out,hke,List.drop_length,dt.zw]
   have HS:=qe hst;clear hst hke;by_cases h0:r.size=0
   ·have b0:=yR h0;have hc:true=decide (r.size=0):=by rw[gF h0]
    have HC2:=qe hc;clear h0 hc;go_wp2_with fail;go_ret2;exact Qa HS.out HC2.out HR.out HB.out
   ·have b0:=jq h0;have hc:false=decide (r.size=0):=by rw[gp h0]
    have HC2:=qe hc;clear h0 hc;go_wp2_with fail;go_ret2;exact Qa HS.out HC2.out HR.out HB.out
namespace dt
def yH (t:Int):Bool:=decide (1<=t) && decide (t<=65535) && decide (t≠41) && (decide (t<128) || decide (255<t))
def fits (t:Int)(d:ByteArray):Bool:=match uo t with
 | none=>true
 | some fs=>match zw fs d [] with
   | some (_,r)=>decide (r.size=0)
   | none=>false
def jh (t:Int)(d:ByteArray):Int:=if yH t=true then(if 65535<d.size then 7 else if fits t d=true then 0 else 7) else 6
theorem U1 (t:Int)(fs:List Fld)(h:uo t=some fs):fs.length<=100:=by
 unfold uo at h;by_cases h1:t=1
 ·rw[if_pos h1]at h;cases h;decide
 rw[if_neg h1]at h;by_cases h2:t=2
 ·rw[if_pos h2]at h;cases h;decide
 rw[if_neg h2]at h;by_cases h5:t=5
 ·rw[if_pos h5]at h;cases h;decide
 rw[if_neg h5]at h;by_cases h6:t=6
 ·rw[if_pos h6]at h;cases h;decide
 rw[if_neg h6]at h;by_cases h12:t=12
 ·rw[if_pos h12]at h;cases h;decide
 rw[if_neg h12]at h;by_cases h13:t=13
 ·rw[if_pos h13]at h;cases h;decide
 rw[if_neg h13]at h;by_cases h15:t=15
 ·rw[if_pos h15]at h;cases h;decide
 rw[if_neg h15]at h;by_cases h16:t=16
 ·rw[if_pos h16]at h;cases h;decide
 rw[if_neg h16]at h;by_cases h28:t=28
 ·rw[if_pos h28]at h;cases h;decide
 rw[if_neg h28]at h;by_cases h33:t=33
 ·rw[if_pos h33]at h;cases h;decide
 rw[if_neg h33]at h;by_cases h35:t=35
 ·rw[if_pos h35]at h;cases h;decide
 rw[if_neg h35]at h;by_cases h39:t=39
 ·rw[if_pos h39]at h;cases h;decide
 rw[if_neg h39]at h;by_cases h43:t=43
 ·rw[if_pos h43]at h;cases h;decide
 rw[if_neg h43]at h;by_cases h46:t=46
 ·rw[if_pos h46]at h;cases h;decide
 rw[if_neg h46]at h;by_cases h47:t=47
 ·rw[if_pos h47]at h;cases h;decide
 rw[if_neg h47]at h;by_cases h48:t=48
 ·rw[if_pos h48]at h;cases h;decide
 rw[if_neg h48]at h;by_cases h50:t=50
 ·rw[if_pos h50]at h;cases h;decide
 rw[if_neg h50]at h;by_cases h51:t=51
 ·rw[if_pos h51]at h;cases h;decide
 rw[if_neg h51]at h;by_cases Zr:t=257
 ·rw[if_pos Zr]at h;cases h;decide
 rw[if_neg Zr]at h
 cases h
end dt
theorem qI {a b:Bool}(h:a=b):Ending.returned (.bool a)= .returned (.bool b):=by rw[h]
theorem Q4 (t:Int)(w:World):Calls Tryz.prog 149 #[.int .i64 t] w λe W'=>e= .returned (.bool (dt.yH t))/\w=W':=by
 by_cases h1:1<=t
 ·by_cases h2:t<=65535
  ·by_cases h3:t=41
   ·subst h3
    go_enter Tryz.func149,Tryz.ntmps149
    go_wp2
    go_ret;exact⟨rfl,rfl⟩
   ·have b3:(t == 41)=false:=by rw[gG];exact h3
    have b4:(t != 41)=true:=by rw[bne_iff_ne];exact h3
    have hr:dt.yH t=(decide (t<128) || decide (255<t)):=by simp[dt.yH,h1,h2,h3]
    have HR:=qe hr;clear hr h3;by_cases h4:t<128
    ·go_enter Tryz.func149,Tryz.ntmps149
     go_wp2
     go_ret;exact⟨qI (by rw[HR.out];simp[h4]),rfl⟩
    ·by_cases h5:255<t
     ·go_enter Tryz.func149,Tryz.ntmps149
      go_wp2
      go_ret;exact⟨qI (by rw[HR.out];simp;omega),rfl⟩
     ·go_enter Tryz.func149,Tryz.ntmps149
      go_wp2
      go_ret;exact⟨qI (by rw[HR.out];simp;omega),rfl⟩
  ·have hr:dt.yH t=false:=by simp[dt.yH,h2]
   have HR:=qe hr;clear hr
   go_enter Tryz.func149,Tryz.ntmps149
   go_wp2
   go_ret;exact⟨qI HR.out.symm,rfl⟩
 ·have hr:dt.yH t=false:=by simp[dt.yH,h1]
  have HR:=qe hr;clear hr
  go_enter Tryz.func149,Tryz.ntmps149
  go_wp2
  go_ret;exact⟨qI HR.out.symm,rfl⟩
theorem Zg (w:World)(fs:List Fld):FldRow (w.alloc (.cells (fs.map encF).toArray 218)) w.heap.size fs:=by
 intro j hj;rw[qg (qz rfl)];simp[hj]
theorem vC (t:Int)(d:ByteArray)(w:World):Calls Tryz.prog 103 #[.int .i64 t,.string d] w λe W'=>e= .returned (.int .i64 (dt.jh t d))/\Below w.heap.size w W':=by
 cases hh:dt.yH t
 ·have hr:dt.jh t d=6:=by unfold dt.jh;rw[hh];rfl
  have HR:=qe hr;have HH:=qe hh;clear hr hh
  go_enter Tryz.func103,Tryz.ntmps103
  go_wp2_with (go_at_call 149;refine(Q4 _ _).mono ?_;rintro e w1 ⟨rfl,rfl⟩;rw[HH.out]);go_ret;exact⟨qQ HR.out.symm,gJ _ _⟩
 ·by_cases hl:65535<d.size
  ·have hr:dt.jh t d=7:=by unfold dt.jh;rw[hh,if_pos rfl,if_pos hl]
   have hl':(65535:Int)<d.size:=by omega
   have HR:=qe hr;have HH:=qe hh;clear hr hh
   go_enter Tryz.func103,Tryz.ntmps103
   go_wp2_with (go_at_call 149;refine(Q4 _ _).mono ?_;rintro e w1 ⟨rfl,rfl⟩;rw[HH.out]);go_ret;exact⟨qQ HR.out.symm,gJ _ _⟩
  ·have hr:dt.jh t d=if dt.fits t d=true then 0 else 7:=by unfold dt.jh;rw[hh,if_pos rfl,if_neg hl]
   have hl':(d.size:Int)<=65535:=by omega
   have hl2:d.size<=65535:=by omega
   cases hf:dt.uo t with
   | none=>
     have hft:dt.fits t d=true:=by unfold dt.fits;rw[hf]
     rw[hft,if_pos rfl]at hr;have HR:=qe hr;have HH:=qe hh;have HF:=qe hf;clear hr hh hf hft
     go_enter Tryz.func103,Tryz.ntmps103
     go_wp2_with (first | (go_at_call 149;refine(Q4 _ _).mono ?_;rintro e w1 ⟨rfl,rfl⟩;rw[HH.out]) | (go_at_call 150;refine(Yz _ _).mono ?_;rintro e w2 hp;unfold Qz at hp;rw[HF.out]at hp;obtain⟨rfl,rfl⟩:=hp));go_ret;exact⟨qQ HR.out.symm,gJ _ _⟩
   | some fs=>
     have hlen:=dt.U1 t fs hf
     have hft:dt.fits t d=match dt.zw fs d [] with
      | some (_,r)=>decide (r.size=0)
      | none=>false:=by unfold dt.fits;rw[hf]
     have HR:=qe hr;have HH:=qe hh;have HF:=qe hf;clear hr hh hf
     cases hs:dt.zw fs d [] with
     | none=>
       rw[hs]at hft;have hft':dt.fits t d=false:=hft;have HS:=qe hs;have HT:=qe hft';clear hs hft hft'
       go_enter Tryz.func103,Tryz.ntmps103
       go_wp2_with (first | (go_at_call 149;refine(Q4 _ _).mono ?_;rintro e w1 ⟨rfl,rfl⟩;rw[HH.out]) | (go_at_call 150;refine(Yz _ _).mono ?_;rintro e w2 hp;unfold Qz at hp;rw[HF.out]at hp;obtain⟨rfl,rfl⟩:=hp));refine(JY fs hlen d hl2 w.heap.size _ (Zg w fs) (by simp)).mono ?_;rintro e w3 ⟨hp,hB3⟩;rw[HS.out]at hp;obtain rfl:=hp;go_wp2_with fail;go_ret;exact⟨qQ (by rw[HR.out,HT.out];rfl),((gJ _ w).alloc (gI _) _).trans (hB3.mono (by simp))⟩
     | some pr=>
       obtain⟨ps,r⟩:=pr;rw[hs]at hft;have hft':dt.fits t d=decide (r.size=0):=hft;have HS:=qe hs;have HT:=qe hft';clear hs hft hft';by_cases h0:r.size=0
       ·have hd0:decide (r.size=0)=true:=by rw[gF h0]
        have HD:=qe hd0;clear h0 hd0
        go_enter Tryz.func103,Tryz.ntmps103
        go_wp2_with (first | (go_at_call 149;refine(Q4 _ _).mono ?_;rintro e w1 ⟨rfl,rfl⟩;rw[HH.out]) | (go_at_call 150;refine(Yz _ _).mono ?_;rintro e w2 hp;unfold Qz at hp;rw[HF.out]at hp;obtain⟨rfl,rfl⟩:=hp));refine(JY fs hlen d hl2 w.heap.size _ (Zg w fs) (by simp)).mono ?_;rintro e w3 ⟨hp,hB3⟩;rw[HS.out]at hp;obtain⟨v,rfl,hv⟩:=hp;rw[HD.out];clear hv;go_wp2_with fail;go_ret;exact⟨qQ (by rw[HR.out,HT.out,HD.out];rfl),((gJ _ w).alloc (gI _) _).trans (hB3.mono (by simp))⟩
       ·have hd0:decide (r.size=0)=false:=by rw[gp h0]
        have HD:=qe hd0;clear h0 hd0
        go_enter Tryz.func103,Tryz.ntmps103
        go_wp2_with (first | (go_at_call 149;refine(Q4 _ _).mono ?_;rintro e w1 ⟨rfl,rfl⟩;rw[HH.out]) | (go_at_call 150;refine(Yz _ _).mono ?_;rintro e w2 hp;unfold Qz at hp;rw[HF.out]at hp;obtain⟨rfl,rfl⟩:=hp));refine(JY fs hlen d hl2 w.heap.size _ (Zg w fs) (by simp)).mono ?_;rintro e w3 ⟨hp,hB3⟩;rw[HS.out]at hp;obtain⟨v,rfl,hv⟩:=hp;rw[HD.out];clear hv;go_wp2_with fail;go_ret;exact⟨qQ (by rw[HR.out,HT.out,HD.out];rfl),((gJ _ w).alloc (gI _) _).trans (hB3.mono (by simp))⟩
end Go.Proofs.YtpcmilhjpmlbpaaGreatDoor
namespace Go.Proofs.YtpcmilhjpmlbpaaGreatDoor
open Go.RowKit Go.Shelf
theorem info_byte:(Tryz.prog.info? 5).map (λi=>(i.zero,i.size,i.bytes))=some (some (.int .u8 0),1,1):=by kernel_rfl
theorem Uw:(Tryz.prog.info? 216).map (·.size)=some 2:=by kernel_rfl
theorem lies_builder:liesAt Tryz.prog Tryz.prog.depth 216 (2 / Tryz.prog.cellsOf 216) 0 216 1=true:=by kernel_rfl
theorem copyCheck_used (b:Nat)(w:World)(h0:w.cell? ⟨b,0,none⟩=some (.pointer (some ⟨b,0,none⟩))):
 Calls Tryz.prog 180 #[.pointer (some ⟨b,0,none⟩)] w λe w'=>e= .returned (.tuple #[])/\w'=w:=by
 obtain⟨j,hj,_⟩:=Option.map_eq_some_iff.1 Uw;have HJ:=qe hj;clear hj
 go_enter Tryz.func180,Tryz.ntmps180
 go_wp2
 rw[Lib.run_neq_ptr_same w _ Tryz.underlying214 HJ.out]
 go_wp2
 go_end0
 exact⟨rfl,rfl⟩
theorem XA (b:Nat)(w:World)(h0:w.cell? ⟨b,0,none⟩=some (.pointer none))(hsh:w.shape? b=some (216,2))(hfz:w.frozen? ⟨b,0,none⟩=false):
 Calls Tryz.prog 180 #[.pointer (some ⟨b,0,none⟩)] w λe w'=>e= .returned (.tuple #[])/\w'=w.setCell ⟨b,0,none⟩ (.pointer (some ⟨b,0,none⟩)):=by
 obtain⟨j,hj,hjs⟩:=Option.map_eq_some_iff.1 Uw;have HJ:=qe hj;have HJS:=qe hjs;have HSH:=qe hsh;clear hj hjs hsh
 go_enter Tryz.func180,Tryz.ntmps180
 go_wp2
 rw[Lib.run_to_unsafe w ⟨b,0,none⟩ Tryz.underlying214 Tryz.underlying154 HJ.out (by rw[HJS.out];decide) HSH.out (Nat.zero_lt_succ 1)];simp only[Result.andThen];rw[Oper.upon_value]
 go_wp2
 rw[run_callFunc_extern Tryz.func188 (by kernel_rfl) (by kernel_rfl) (by kernel_rfl) (e:=Extern.AbiNoEscape.same) (by kernel_rfl)];rw[Lib.run_noEscape];simp only[Result.andThen];rw[Oper.upon_value]
 go_wp2
 rw[Lib.run_from_unsafe w ⟨b,0,none⟩ Tryz.underlying154 Tryz.underlying214 HJ.out HSH.out lies_builder];simp only[Result.andThen];rw[Oper.upon_value]
 go_wp2
 go_end0
 exact⟨rfl,rfl⟩
theorem copyCheck_any (B b:Nat)(bs:List Value)(w:World)(h:Lib.IsBuilder 216 5 B b bs w):
 Calls Tryz.prog 180 #[.pointer (some ⟨b,0,none⟩)] w λe w'=>e= .returned (.tuple #[])/\Lib.BuilderAt 216 5 B b (.pointer (some ⟨b,0,none⟩)) bs w'/\Below B w w':=by
 rcases h with h | h
 ·refine(XA b w h.cell0 h.shape h.frozen0).mono ?_;rintro e w' ⟨rfl,rfl⟩;exact⟨rfl,h.used _,(gJ B w).setCell (p:=⟨b,0,none⟩) h.1 _⟩
 ·refine(copyCheck_used b w h.cell0).mono ?_;rintro e w' ⟨rfl,rfl⟩;exact⟨rfl,h,gJ B _⟩
theorem Y1 (B b:Nat)(bs:List Value)(s:ByteArray)(w:World)(h:Lib.IsBuilder 216 5 B b bs w)(hlen:bs.length+s.size<=140737488355328)(hBw:B<=w.heap.size):
 Calls Tryz.prog 158 #[.pointer (some ⟨b,0,none⟩),.string s] w λe w'=>e= .returned (.tuple #[.int .i64 s.size,.nilIface])/\Lib.BuilderAt 216 5 B b (.pointer (some ⟨b,0,none⟩)) (bs ++ Lib.strCells s) w'/\Below B w w':=by
 obtain⟨i0,hi,hz0,hz1,hz2⟩:=info_parts info_byte;have HI:=qe hi;have HZ:=qe hz0;have HZ1:=qe hz1;have HZ2:=qe hz2;clear hi hz0 hz1 hz2
 go_enter Tryz.func158,Tryz.ntmps158
 go_wp2_with fail;refine(copyCheck_any B b bs _ h).mono ?_;rintro e w1 ⟨rfl,h1,hb1⟩;obtain⟨hB,v,hbk,hown,hne⟩:=h1;have c0:w1.cell? ⟨b,0,none⟩=some (.pointer (some ⟨b,0,none⟩)):=by rw[Lib.cell_of_heap hbk];rfl
 have c1:w1.cell? ⟨b,1,none⟩=some v:=by rw[Lib.cell_of_heap hbk];rfl
 have HBK:=qe hbk;have HOWN:=qe hown;have HNE:=qe hne;clear hbk hown hne;go_wp2_with (at_builtin;refine Lib.wpList_append_own_string _ rfl _ _ 122 9 rfl B 5 i0 Tryz.underlying122 Tryz.underlying9 HI.out HZ.out HZ1.out HZ2.out _ _ _ rfl HOWN.out s rfl ?c3 ?c4 ?c5 ?_)
 case c3=>unfold maxLen;omega
 case c4=>omega
 case c5=>have:=hb1.size;omega
 intro v' w2 hown' hgrow _;have hlt:b<w1.heap.size:=qA HBK.out;have hb2:w2.heap[b]? =some (.cells #[.pointer (some ⟨b,0,none⟩),v] 216 (0,0)):=by
  rw[hgrow.block b hlt (λe=>HNE.out e.symm)];exact HBK.out
 have d0:w2.cell? ⟨b,0,none⟩=some (.pointer (some ⟨b,0,none⟩)):=by rw[Lib.cell_of_heap hb2];rfl
 have d1:w2.cell? ⟨b,1,none⟩=some v:=by rw[Lib.cell_of_heap hb2];rfl
 have f1:w2.frozen? ⟨b,1,none⟩=false:=Lib.frozen_of_heap hb2 1;obtain⟨ao,n',cap,rfl⟩:∃ao n' cap,v'= .slice ao n' cap:=by
  rcases hown'.2 with⟨hv,_⟩|⟨g,cap,cur,hv,_⟩
  ·exact⟨_,_,_,hv⟩
  ·exact⟨_,_,_,hv⟩
 have HB2:=qe hb2;have HO:=qe hown';have HG:=qe hgrow;clear hb2 hown' hgrow
 go_wp2
 go_ret2;refine⟨rfl,?_,?_⟩
 ·exact Lib.BuilderAt.put (T:=216) (e:=5) hB HB2.out (bs':=bs ++ Lib.strCells s) (by simpa[Lib.strCells_length] using HO.out) (by decide)
 ·exact(hb1.grown HG.out (by have:=hb1.size;omega) (λk hk=>(HOWN.out.lt k hk).1)).setCell (p:=⟨b,1,none⟩) hB _
theorem clone_any (s:ByteArray)(hs:s.size<=281474976710656)(w:World):Calls Tryz.prog 157 #[.string s] w λe w'=>e= .returned (.string s)/\Below w.heap.size w w':=by
 go_enter Tryz.func157,Tryz.ntmps157
 go_wp2_with (go_at_call 179;refine(Tryz.stringslite_Clone _ _ hs).mono ?_;rintro e w1 ⟨rfl,hB1⟩);go_ret;exact⟨rfl,hB1⟩
open nm
open dt (Fld)
namespace dt
def jC:Fld->ByteArray->ByteArray
 | .host,p=>qy p
 | _,p=>p
def zJ:List Fld->List ByteArray->List UInt8
 | f :: fs,p :: ps=>(jC f p).data.toList ++ zJ fs ps
 | _,_=>[]
def ym (t:Int)(d:ByteArray):ByteArray:=if jh t d=0 then(match uo t with
 | none=>d
 | some fs=>match zw fs d [] with
   | some (ps,_)=>⟨(zJ fs ps).toArray⟩
   | none=>ByteArray.empty) else ByteArray.empty
theorem YL:∀(fs:List Fld) (d:ByteArray) (acc ps:List ByteArray) (r:ByteArray),zw fs d acc=some (ps,r)->ps.length=acc.length+fs.length/\r.size<=d.size/\∀p∈ps,p∈acc\/p.size<=d.size:=by
 intro fs
 induction fs with
 | nil=>intro d acc ps r h;simp only[zw,gM,Prod.mk.injEq]at h;obtain⟨rfl,rfl⟩:=h;exact⟨by simp,gI _,λp hp=>.inl hp⟩
 | cons f fs ih=>
   intro d acc ps r h;rw[zw]at h
   split at h
   ·cases h
   ·obtain⟨h1,h2,h3⟩:=ih _ _ _ _ h;have hx:(d.extract (jU f d).toNat d.size).size<=d.size:=by rw[Hq];omega
    refine⟨by rw[h1,gK,gT,Ha];omega,by omega,λp hp=>?_⟩;rcases h3 p hp with h4 | h4
    ·rcases List.mem_append.1 h4 with h5 | h5
     ·exact .inl h5
     ·rw[gY]at h5;subst h5;right;rw[Hq];have:=Jj f d;omega
    ·exact .inr (by omega)
theorem ZR (f:Fld)(p:ByteArray):(jC f p).size<=p.size:=by
 have hf:(qy p).size<=p.size:=by
  unfold qy
  split
  ·rw[VG];exact gI _
  ·exact gU _
 cases f <;> first | exact hf | exact gI _
end dt
theorem ta_host (w:World):(Instr.typeAssert (encF .host) 218 220 true).run Tryz.prog w= .ok (.tuple #[.agg #[],.bool true]) w:=by kernel_rfl
theorem ta_other (f:Fld)(h:f≠.host)(w:World):(Instr.typeAssert (encF f) 218 220 true).run Tryz.prog w= .ok (.tuple #[.agg #[],.bool false]) w:=by
 cases f <;> first | exact absurd rfl h | kernel_rfl
theorem xJ {a b:ByteArray}(h:a=b):Ending.returned (.string a)= .returned (.string b):=by rw[h]
theorem ba_len (s:ByteArray):s.data.toList.length=s.size:=Array.length_toList
theorem Qe {w:World}{a:Addr}{v:Value}(h:w.cell? a=some v):a.block<w.heap.size:=by
 rcases Nat.lt_or_ge a.block w.heap.size with hh | hh
 ·exact hh
 ·simp[World.cell?,Array.getElem?_eq_none hh]at h
theorem Y2 {T e:TypeId}{B b:Nat}{bs:List Value}{w w':World}(h:Lib.IsBuilder T e B b bs w)(hb:Below w.heap.size w w'):Lib.IsBuilder T e B b bs w':=by
 have one:∀p,Lib.BuilderAt T e B b p bs w->Lib.BuilderAt T e B b p bs w':=by
  rintro p ⟨h1,v,h2,h3,h4⟩;exact⟨h1,v,(hb.block b (qA h2)).trans h2,ownsRow_below h3 hb,h4⟩
 rcases h with h | h
 ·exact .inl (one _ h)
 ·exact .inr (one _ h)
theorem dfold_form (t:Int)(d:ByteArray)(fs:List Fld)(ps:List ByteArray)(r0:ByteArray)(hchk:dt.jh t d=0)(hf:dt.uo t=some fs)(hs:dt.zw fs d []=some (ps,r0))(hd:d.size<=65535)(w:World):
 Calls Tryz.prog 118 #[.int .i64 t,.string d] w λe W'=>e= .returned (.string (dt.ym t d))/\Below w.heap.size w W':=by
 have hres:dt.ym t d=⟨(dt.zJ fs ps).toArray⟩:=by unfold dt.ym;rw[if_pos hchk,hf];simp only[hs]
 have hlen:=dt.U1 t fs hf;obtain⟨hpl,_,hps⟩:=dt.YL fs d [] ps r0 hs;have hpl:ps.length=fs.length:=by simpa using hpl
 have hps':∀p∈ps,p.size<=65535:=λp hp=>by
  rcases hps p hp with h | h
  ·simp at h
  ·omega
 have zK:=qe hres;have HCHK:=qe hchk;have HF:=qe hf;have HS:=qe hs;have HPS:=qe hps';have HPL:=qe hpl;clear hres hchk hf hs hps hps' hpl
 go_enter Tryz.func118,Tryz.ntmps118
 go_wp2_with fail;refine(vC t d _).mono ?_;rintro e w1 ⟨rfl,hB1⟩;rw[HCHK.out];go_wp2_with fail;refine(Yz t _).mono ?_;rintro e w2 hp;unfold Qz at hp;rw[HF.out]at hp;obtain⟨rfl,rfl⟩:=hp;go_wp2_with fail;refine(JY fs hlen d hd w1.heap.size _ (Zg w1 fs) (by simp)).mono ?_;rintro e w3 ⟨hp,hB3⟩;rw[HS.out]at hp;obtain⟨v,rfl,hv⟩:=hp;obtain⟨av,cv,rfl,hcv,fv⟩:=UC hv (W':=w3) (λg _=>rfl);have FV:=qe fv;have z1:=hB1.size;have z3:=hB3.size;simp only[World.size_alloc]at z3;have hfld:FldRow w3 w1.heap.size fs:=λj hj=>(hB3.cell (p:=⟨w1.heap.size,j,none⟩) (by simp)).trans (Zg w1 fs j hj);have HFLD:=qe hfld;have HBW:=qe ((hB1.alloc z1 (.cells (fs.map encF).toArray 218)).trans (hB3.mono (by simp;omega)));have HBU:=qe (Lib.fresh_isBuilder 216 5 w3);clear fv hv hfld;go_wp2_with fail
 go_loopw [35,10,11,12,13] (λkv _ _ _ _ wr=>∃(k:Nat) (acc:List UInt8),k<=fs.length/\kv= .int .i64 k/\acc.length<=k*65535/\acc ++ dt.zJ (fs.drop k) (ps.drop k)=dt.zJ fs ps/\
  Lib.IsBuilder 216 5 w3.heap.size w3.heap.size (Lib.byteCells acc) wr/\Below w3.heap.size w3 wr) (λkv _ _ _ _ _=>fs.length-(intOf kv).toNat)
 case atStart=>exact⟨0,[],by omega,rfl,by simp,by simp,HBU.out,(gJ _ _).alloc (gI _) _⟩
 case round=>
  obtain⟨k,acc,hk,rfl,hal,hacc,hbu,hb⟩:=hrel;have HACC:=qe hacc;have HBUI:=qe hbu;have HB:=qe hb;clear hacc hbu hb;have hz:=HB.out.size;by_cases hlt:k<fs.length
  ·have hkp:k<ps.length:=by have:=HPL.out;omega
   have hcell:wr.cell? ⟨w1.heap.size,k,none⟩=some (encF fs[k]):=(HB.out.cell (p:=⟨w1.heap.size,k,none⟩) (by show w1.heap.size<w3.heap.size;omega)).trans (HFLD.out k hlt);obtain⟨gv,rfl,cx⟩:=FV.out k hkp;have cx':wr.cell? ⟨gv,k,none⟩=some (.string ps[k]):=(HB.out.cell (p:=⟨gv,k,none⟩) (Qe cx)).trans cx;have cx2:=λo=>qx (W:=wr) o cx';have hsz:=HPS.out ps[k] (Ht _);have hfp:=dt.ZR fs[k] ps[k];have hnx:(acc ++ (dt.jC fs[k] ps[k]).data.toList) ++ dt.zJ (fs.drop (k+1)) (ps.drop (k+1))=dt.zJ fs ps:=by
    rw[<- HACC.out,Hf hlt,Hf hkp,dt.zJ,List.append_assoc]
   have hal2:(acc ++ (dt.jC fs[k] ps[k]).data.toList).length<=(k+1)*65535:=by
    rw[gK];have:=ba_len (dt.jC fs[k] ps[k]);omega
   have hbl:(Lib.byteCells acc).length=acc.length:=Lib.byteCells_length acc;have hbig:(Lib.byteCells acc).length+(dt.jC fs[k] ps[k]).size<=140737488355328:=by
    have:k*65535<=100*65535:=Nat.mul_le_mul_right _ (by omega);omega
   have hcells:Lib.byteCells acc ++ Lib.strCells (dt.jC fs[k] ps[k])=Lib.byteCells (acc ++ (dt.jC fs[k] ps[k]).data.toList):=by
    simp[Lib.byteCells,Lib.strCells]
   have HNX:=qe hnx;have Je:=qe hal2;have HBIG:=qe hbig;have HCE:=qe hcells;have CX:=qe cx;clear hnx hal2 hbl hbig hcells cx;by_cases hh:fs[k]= .host
   ·have hta:=ta_host;rw[hh]at hcell;have hfo:dt.jC fs[k] ps[k]=qy ps[k]:=by rw[hh];rfl
    have HFO:=qe hfo;have HH:=qe hh;clear hfo hh;go_wp2_with fail;refine(kU ps[k] _).mono ?_;rintro e w5 ⟨rfl,hB5⟩;have hbA:=(gJ wr.heap.size wr).alloc (gI _) (.cells #[] 220);have hb5:=hbA.trans (hB5.mono (by simp));have hbu5:=Y2 HBUI.out hb5;have z5:=hb5.size;rw[HFO.out]at HNX Je HBIG HCE;go_wp2_with fail;refine(Y1 w3.heap.size w3.heap.size _ (qy ps[k]) w5 hbu5 HBIG.out (by omega)).mono ?_;rintro e w6 ⟨rfl,hbu6,hB6⟩;rw[HCE.out]at hbu6;have HBU6:=qe hbu6;have HB6:=qe ((HB.out.trans (hb5.mono hz)).trans hB6);clear hbu5 hbu6;go_wp2_with fail
    go_roundw
    case rel=>exact⟨k+1,_,by omega,by go_num,Je.out,HNX.out,.inr HBU6.out,HB6.out⟩
    case measure=>simp[intOf];omega
   ·have hta:=ta_other fs[k] hh;have hfo:dt.jC fs[k] ps[k]=ps[k]:=by
     cases hfk:fs[k] <;> first | rfl | exact absurd hfk hh
    have HFO:=qe hfo;have HH:=qe hh;clear hfo hh;go_wp2_with fail;have hbA:=(gJ wr.heap.size wr).alloc (gI _) (.cells #[] 220);have hbu5:=Y2 HBUI.out hbA;rw[HFO.out]at HNX Je HBIG HCE;refine(Y1 w3.heap.size w3.heap.size _ ps[k] _ hbu5 HBIG.out (by simp;omega)).mono ?_;rintro e w6 ⟨rfl,hbu6,hB6⟩;rw[HCE.out]at hbu6;have HBU6:=qe hbu6;have HB6:=qe ((HB.out.trans (hbA.mono hz)).trans hB6);clear hbu5 hbu6;go_wp2_with fail
    go_roundw
    case rel=>exact⟨k+1,_,by omega,by go_num,Je.out,HNX.out,.inr HBU6.out,HB6.out⟩
    case measure=>simp[intOf];omega
  ·have hke:k=fs.length:=by omega
   have hfin:dt.zJ fs ps=acc:=by
    rw[<- HACC.out,hke,List.drop_length];simp[dt.zJ]
   have Vf:=qe hfin;clear hke hfin;go_wp2_with fail;refine(Tryz.Builder_String_any w3.heap.size w3.heap.size acc wr HBUI.out hz).mono ?_;rintro e w6 ⟨rfl,hB6⟩;go_wp2_with fail;go_ret;exact⟨xJ (by rw[zK.out,Vf.out]),HBW.out.trans ((HB.out.trans hB6).mono (by omega))⟩
theorem dfold_any (t:Int)(d:ByteArray)(w:World):Calls Tryz.prog 118 #[.int .i64 t,.string d] w λe W'=>e= .returned (.string (dt.ym t d))/\Below w.heap.size w W':=by
 by_cases hc:dt.jh t d=0
 ·have hd:d.size<=65535:=by
   unfold dt.jh at hc
   repeat' split at hc
   all_goals omega
  cases hf:dt.uo t with
  | none=>
    have hres:dt.ym t d=d:=by unfold dt.ym;rw[if_pos hc,hf]
    have HR:=qe hres;have HC:=qe hc;have HF:=qe hf;clear hres hc hf
    go_enter Tryz.func118,Tryz.ntmps118
    go_wp2_with fail;refine(vC t d _).mono ?_;rintro e w1 ⟨rfl,hB1⟩;rw[HC.out];go_wp2_with fail;refine(Yz t _).mono ?_;rintro e w2 hp;unfold Qz at hp;rw[HF.out]at hp;obtain⟨rfl,rfl⟩:=hp;go_wp2_with fail;refine(clone_any d (by omega) _).mono ?_;rintro e w3 ⟨rfl,hB3⟩;go_wp2_with fail;go_ret;exact⟨xJ (by rw[HR.out]),hB1.trans (hB3.mono hB1.size)⟩
  | some fs=>
    cases hs:dt.zw fs d [] with
    | none=>
      exfalso;unfold dt.jh dt.fits at hc;rw[hf]at hc;simp only[hs]at hc
      repeat' split at hc
      all_goals first | omega | (rename_i h;cases h)
    | some pr=>
      obtain⟨ps,r0⟩:=pr;exact dfold_form t d fs ps r0 hc hf hs hd w
 ·have hres:dt.ym t d=ByteArray.empty:=by unfold dt.ym;rw[if_neg hc]
  have hb:(dt.jh t d == 0)=false:=by rw[gG];exact hc
  have hb':(dt.jh t d != 0)=true:=by rw[bne_iff_ne];exact hc
  have HR:=qe hres;clear hres hc
  go_enter Tryz.func118,Tryz.ntmps118
  go_wp2_with fail;refine(vC t d _).mono ?_;rintro e w1 ⟨rfl,hB1⟩;go_wp2_with fail;go_ret;exact⟨by rw[HR.out];rfl,hB1⟩
end Go.Proofs.YtpcmilhjpmlbpaaGreatDoor
