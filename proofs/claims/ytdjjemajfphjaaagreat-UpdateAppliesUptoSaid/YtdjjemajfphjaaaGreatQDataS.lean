import Derived.Test.YtdjjemajfphjaaaGreatQDataK
import Derived.Test.YtdjjemajfphjaaaGreatQNameE
import Derived.Test.YtdjjemajfphjaaaGreatQShelf
import Derived.Deep.RegionWith
set_option maxRecDepth 100000
set_option maxHeartbeats 4000000
namespace Go.Proofs.YtdjjemajfphjaaaGreat
open Go.RowKit Go.Shelf nm
namespace dt
def jW (f:Fld)(d:ByteArray):Int:=match f with
 | .num n=>xA n d
 | .ip4=>xA 4 d
 | .ip6=>xA 16 d
 | .host=>Qp d
 | .text=>yO d
 | .texts=>QE d
 | .tail=>(d.size:Int)
 | .Y8=>xS d
 | .b64=>xS d
 | .kind=>ZJ d
 | .kinds=>QJ d
 | .KG=>yO d
 | .hash=>ZN d
def zt:List Fld→ByteArray→List ByteArray→Option (List ByteArray×ByteArray)
 | [],d,acc=>some (acc,d)
 | f :: fs,d,acc=>if jW f d<0 then none else zt fs (d.extract (jW f d).toNat d.size) (acc ++ [d.extract 0 (jW f d).toNat])
theorem textsGo_le (d:ByteArray):∀(f k:Nat),k≤d.size→jY d f k≤d.size:=by
 intro f
 induction f with
 | zero=>intro k _;simp[jY]
 | succ f ih=>
   intro k hk
   rw[jY]
   split
   ·split
    ·omega
    ·rcases Q5 (d.extract k d.size) with h | ⟨h1,h2,h3⟩
     ·omega
     ·rw[size_extract d hk]at h2
      exact ih _ (by omega)
   ·split <;> omega
theorem YO (f:Fld)(d:ByteArray):jW f d≤d.size:=by
 have ht:=Q5 d
 have hn:∀n,xA n d≤d.size:=fun n=>by unfold xA;split <;> omega
 cases f with
 | num n=>exact hn n
 | ip4=>exact hn 4
 | ip6=>exact hn 16
 | host=>show Qp d≤_;unfold Qp;split <;> (try split) <;> omega
 | text=>show yO d≤_;omega
 | texts=>exact textsGo_le d _ 0 (Nat.zero_le _)
 | tail=>exact Int.le_refl _
 | Y8=>show xS d≤_;unfold xS;split <;> omega
 | b64=>show xS d≤_;unfold xS;split <;> omega
 | kind=>show ZJ d≤_;unfold ZJ;split <;> (try split) <;> omega
 | kinds=>show QJ d≤_;unfold QJ;split <;> omega
 | KG=>show yO d≤_;omega
 | hash=>show ZN d≤_;unfold ZN;split <;> (try split) <;> omega
end dt
open dt (Fld)
def takeFn:Fld→FuncId
 | .num _=>210
 | .ip4=>213
 | .ip6=>222
 | .host=>207
 | .text=>216
 | .texts=>219
 | .tail=>246
 | .Y8=>225
 | .b64=>233
 | .kind=>229
 | .kinds=>236
 | .KG=>240
 | .hash=>243
theorem take_any (f:Fld)(d:ByteArray)(hd:d.size≤65535)(w:World):Calls Tryz.prog (takeFn f) #[recvF f,.string d] w fun e W'=>e= .returned (.int .i64 (dt.jW f d))∧Below w.heap.size w W':=by
 cases f with
 | num n=>exact(YZ n d w).mono fun e w' ⟨h,hw⟩=>⟨h,hw ▸ Below.refl _ _⟩
 | ip4=>exact ip4_take d w
 | ip6=>exact ip6_take d w
 | host=>exact host_take d hd w
 | text=>exact Zy d w
 | texts=>exact texts_take d hd w
 | tail=>exact tail_take d w
 | Y8=>exact hexes_take d w
 | b64=>exact b64_take d w
 | kind=>exact kind_take d w
 | kinds=>exact kinds_take d hd w
 | KG=>exact salt_take d w
 | hash=>exact hash_take d w
theorem method_take (f:Fld)(w:World):(method 339 (tyF f) (recvF f) "gazetteer/data.take").run Tryz.prog w= .ok (takeFn f,recvF f) w:=by
 cases f <;> kernel_rfl
theorem call_take (f:Fld)(args:Array Value)(w:World):(callFunc (takeFn f) args).run Tryz.prog w= .ok (.enter (takeFn f) args) w:=by
 cases f <;> kernel_rfl
theorem ownsRow_below {w w':World}{base:Nat}{e:TypeId}{size:Nat}{v:Value}{n:Nat}{xs:List Value}(h:w.ownsRow base e size v n xs)(hb:Below w.heap.size w w'):w'.ownsRow base e size v n xs:=by
 refine⟨h.1,?_⟩
 rcases h.2 with hn | ⟨g,cap,cur,hv,hg,hk,rest⟩
 ·exact .inl hn
 ·exact .inr ⟨g,cap,cur,hv,hg,(hb.block g (qw hk)).trans hk,rest⟩
def FldRow (w:World)(b:Nat)(fs:List Fld):Prop:=∀j (h:j<fs.length),w.cell? ⟨b,j,none⟩=some (encF fs[j])
def JF (fs:List Fld)(d:ByteArray)(w:World)(e:Ending)(w':World):Prop:=
 (match dt.zt fs d [] with
 | some (ps,r)=>∃v,e= .returned (.tuple #[v,.bool (decide (r.size=0))])∧w'.ownsRow w.heap.size 9 1 v ps.length (ps.map .string)
 | none=>e= .returned (.tuple #[.slice none 0 0,.bool false]))∧Below w.heap.size w w'
theorem Ky {fs:List Fld}{d:ByteArray}{w w':World}(h:dt.zt fs d []=none)(hb:Below w.heap.size w w'):JF fs d w (.returned (.tuple #[.slice none 0 0,.bool false])) w':=⟨by rw[h],hb⟩
theorem xK {fs:List Fld}{d:ByteArray}{w w':World}{ps:List ByteArray}{r:ByteArray}{v:Value}{c:Bool}(h:dt.zt fs d []=some (ps,r))(hc:c=decide (r.size=0))(hv:w'.ownsRow w.heap.size 9 1 v ps.length (ps.map .string))(hb:Below w.heap.size w w'):JF fs d w (.returned (.tuple #[v,.bool c])) w':=⟨by rw[h];exact⟨v,by rw[hc],hv⟩,hb⟩
theorem Jo (fs:List Fld)(hfs:fs.length≤100)(d:ByteArray)(hd:d.size≤65535)(b:Nat)(w:World)(hc:FldRow w b fs)(hbw:b<w.heap.size):Calls Tryz.prog 131 #[.slice (some ⟨b,0,none⟩) fs.length fs.length,.string d] w fun e W'=>JF fs d w e W':=by
 obtain⟨i0,hi,hz0,hz1,hz2⟩:=info_parts ZK
 have HI:=Lib.hid hi;have HZ:=Lib.hid hz0;have HZ1:=Lib.hid hz1;have HZ2:=Lib.hid hz2
 have HC:=Lib.hid hc
 clear hi hz0 hz1 hz2 hc
 go_enter Tryz.func131,Tryz.ntmps131
 go_wp2
 go_loopw [12,1,6,8,9] (fun kv s v _ _ wr=>∃(k:Nat) (r:ByteArray) (acc:List ByteArray),k≤fs.length∧kv= .int .i64 k∧s= .string r∧r.size≤65535∧acc.length=k∧dt.zt fs d []=dt.zt (fs.drop k) r acc∧wr.ownsRow w.heap.size 9 1 v acc.length (acc.map .string)∧Below w.heap.size w wr) (fun kv _ _ _ _ _=>fs.length-(intOf kv).toNat)
 case atStart=>exact⟨0,d,[],by omega,rfl,rfl,hd,rfl,rfl,World.ownsRow_nil _ _ _ _,Below.refl _ _⟩
 case round=>
  obtain⟨k,r,acc,hk,rfl,rfl,hr,hacc,he,hrow,hb⟩:=hrel
  have HA:=Lib.hid hacc;have HE:=Lib.hid he;have HR:=Lib.hid hrow;have HB:=Lib.hid hb
  clear hacc he hrow hb
  by_cases hlt:k<fs.length
  ·have hcell:wr.cell? ⟨b,k,none⟩=some (encF fs[k]):=(HB.out.cell (p:=⟨b,k,none⟩) hbw).trans (HC.out k hlt)
   have hst:dt.zt fs d []=dt.zt (fs[k] :: fs.drop (k+1)) r acc:=by rw[HE.out,List.drop_eq_getElem_cons hlt]
   have hm:=method_take fs[k]
   have hcf:=call_take fs[k]
   have hle:=dt.YO fs[k] r
   by_cases hneg:dt.jW fs[k] r<0
   ·rw[dt.zt,if_pos hneg]at hst
    have HS:=Lib.hid hst
    clear hst
    go_wp2_with fail
    refine(take_any _ _ hr _).mono ?_;rintro e w1 ⟨rfl,hB1⟩
    go_wp2_with fail
    go_ret2
    exact Ky HS.out (HB.out.trans (hB1.mono HB.out.size))
   ·rw[dt.zt,if_neg hneg]at hst
    have hpos:0≤dt.jW fs[k] r:=by omega
    have HS:=Lib.hid hst
    clear hst hneg
    have q1:acc.length+1≤maxLen:=by have:=HA.out;simp only[maxLen];omega
    have q2:(acc.length+1)*16≤140737488355328:=by have:=HA.out;omega
    have Q1:=Lib.hid q1;have Q2:=Lib.hid q2
    clear q1 q2
    go_wp2_with fail
    refine(take_any _ _ hr _).mono ?_;rintro e w1 ⟨rfl,hB1⟩
    have hR1:=ownsRow_below HR.out hB1
    have HR1:=Lib.hid hR1
    have HB1:=Lib.hid (HB.out.trans (hB1.mono HB.out.size))
    clear hR1
    go_wp2_with (at_builtin;refine wpList_append_own _ rfl _ _ 130 rfl w.heap.size 9 i0 (.string ByteArray.empty) 1 16 Tryz.underlying130 HI.out HZ.out HZ1.out HZ2.out rfl (by decide) _ _ _ rfl (HR1.out.alloc _) ⟨w1.heap.size,0,none⟩ 1 1 [.string (r.extract 0 (dt.jW fs[k] r).toNat)] rfl rfl (cell_one_new _ _ _) (by simp[Value.oneCell']) Q1.out Q2.out (by have:=HB1.out.size;simp;omega) ?_;intro v' w2 hown' hgrow _;have HO:=Lib.hid hown';have HG:=Lib.hid hgrow;clear hown' hgrow)
    go_roundw
    case rel=>
     refine⟨k+1,_,acc ++ [r.extract 0 (dt.jW fs[k] r).toNat],by omega,by go_num,rfl,?_,by rw[List.length_append,HA.out];rfl,HS.out,?_,?_⟩
     ·rw[ByteArray.size_extract];omega
     ·have h:=HO.out
      simpa using h
     ·exact(HB1.out.alloc HB1.out.size _).grown HG.out (by have:=HB1.out.size;simp;omega) (fun j ej=>Zk HR1.out ej)
    case measure=>simp[intOf];omega
  ·have hke:k=fs.length:=by omega
   have hst:dt.zt fs d []=some (acc,r):=by rw[HE.out,hke,List.drop_length,dt.zt]
   have HS:=Lib.hid hst
   clear hst hke
   by_cases h0:r.size=0
   ·have b0:=yg h0
    have hc:true=decide (r.size=0):=by rw[decide_eq_true h0]
    have HC2:=Lib.hid hc
    clear h0 hc
    go_wp2_with fail
    go_ret2
    exact xK HS.out HC2.out HR.out HB.out
   ·have b0:=yF h0
    have hc:false=decide (r.size=0):=by rw[decide_eq_false h0]
    have HC2:=Lib.hid hc
    clear h0 hc
    go_wp2_with fail
    go_ret2
    exact xK HS.out HC2.out HR.out HB.out
end Go.Proofs.YtdjjemajfphjaaaGreat
namespace Go.Proofs.YtdjjemajfphjaaaGreat
open Go.RowKit Go.Shelf nm
open dt (Fld)
namespace dt
def yL (t:Int):Bool:=decide (1≤t) && decide (t≤65535) && decide (t≠41) && (decide (t<128) || decide (255<t))
def fits (t:Int)(d:ByteArray):Bool:=match uq t with
 | none=>true
 | some fs=>match zt fs d [] with
   | some (_,r)=>decide (r.size=0)
   | none=>false
def yo (t:Int)(d:ByteArray):Int:=if yL t=true then(if 65535<d.size then 7 else if fits t d=true then 0 else 7) else 6
theorem Ud (t:Int)(fs:List Fld)(h:uq t=some fs):fs.length≤100:=by
 unfold uq at h
 by_cases h1:t=1
 ·rw[if_pos h1]at h;cases h;decide
 rw[if_neg h1]at h
 by_cases h2:t=2
 ·rw[if_pos h2]at h;cases h;decide
 rw[if_neg h2]at h
 by_cases h5:t=5
 ·rw[if_pos h5]at h;cases h;decide
 rw[if_neg h5]at h
 by_cases h6:t=6
 ·rw[if_pos h6]at h;cases h;decide
 rw[if_neg h6]at h
 by_cases h12:t=12
 ·rw[if_pos h12]at h;cases h;decide
 rw[if_neg h12]at h
 by_cases h13:t=13
 ·rw[if_pos h13]at h;cases h;decide
 rw[if_neg h13]at h
 by_cases h15:t=15
 ·rw[if_pos h15]at h;cases h;decide
 rw[if_neg h15]at h
 by_cases h16:t=16
 ·rw[if_pos h16]at h;cases h;decide
 rw[if_neg h16]at h
 by_cases h28:t=28
 ·rw[if_pos h28]at h;cases h;decide
 rw[if_neg h28]at h
 by_cases h33:t=33
 ·rw[if_pos h33]at h;cases h;decide
 rw[if_neg h33]at h
 by_cases h35:t=35
 ·rw[if_pos h35]at h;cases h;decide
 rw[if_neg h35]at h
 by_cases h39:t=39
 ·rw[if_pos h39]at h;cases h;decide
 rw[if_neg h39]at h
 by_cases h43:t=43
 ·rw[if_pos h43]at h;cases h;decide
 rw[if_neg h43]at h
 by_cases h46:t=46
 ·rw[if_pos h46]at h;cases h;decide
 rw[if_neg h46]at h
 by_cases h47:t=47
 ·rw[if_pos h47]at h;cases h;decide
 rw[if_neg h47]at h
 by_cases h48:t=48
 ·rw[if_pos h48]at h;cases h;decide
 rw[if_neg h48]at h
 by_cases h50:t=50
 ·rw[if_pos h50]at h;cases h;decide
 rw[if_neg h50]at h
 by_cases h51:t=51
 ·rw[if_pos h51]at h;cases h;decide
 rw[if_neg h51]at h
 by_cases QW:t=257
 ·rw[if_pos QW]at h;cases h;decide
 rw[if_neg QW]at h
 cases h
end dt
theorem qA {a b:Bool}(h:a=b):Ending.returned (.bool a)= .returned (.bool b):=by rw[h]
theorem QA (t:Int)(w:World):Calls Tryz.prog 134 #[.int .i64 t] w fun e W'=>e= .returned (.bool (dt.yL t))∧w=W':=by
 by_cases h1:1≤t
 ·by_cases h2:t≤65535
  ·by_cases h3:t=41
   ·subst h3
    go_enter Tryz.func134,Tryz.ntmps134
    go_wp2
    go_ret
    exact⟨rfl,rfl⟩
   ·have b3:(t == 41)=false:=by rw[beq_eq_false_iff_ne];exact h3
    have b4:(t != 41)=true:=by rw[bne_iff_ne];exact h3
    have hr:dt.yL t=(decide (t<128) || decide (255<t)):=by simp[dt.yL,h1,h2,h3]
    have HR:=Lib.hid hr
    clear hr h3
    by_cases h4:t<128
    ·go_enter Tryz.func134,Tryz.ntmps134
     go_wp2
     go_ret
     exact⟨qA (by rw[HR.out];simp[h4]),rfl⟩
    ·by_cases h5:255<t
     ·go_enter Tryz.func134,Tryz.ntmps134
      go_wp2
      go_ret
      exact⟨qA (by rw[HR.out];simp;omega),rfl⟩
     ·go_enter Tryz.func134,Tryz.ntmps134
      go_wp2
      go_ret
      exact⟨qA (by rw[HR.out];simp;omega),rfl⟩
  ·have hr:dt.yL t=false:=by simp[dt.yL,h2]
   have HR:=Lib.hid hr
   clear hr
   go_enter Tryz.func134,Tryz.ntmps134
   go_wp2
   go_ret
   exact⟨qA HR.out.symm,rfl⟩
 ·have hr:dt.yL t=false:=by simp[dt.yL,h1]
  have HR:=Lib.hid hr
  clear hr
  go_enter Tryz.func134,Tryz.ntmps134
  go_wp2
  go_ret
  exact⟨qA HR.out.symm,rfl⟩
theorem QN (w:World)(fs:List Fld):FldRow (w.alloc (.cells (fs.map encF).toArray 159)) w.heap.size fs:=by
 intro j hj
 rw[qg (qo rfl)]
 simp[hj]
theorem kQ (t:Int)(d:ByteArray)(w:World):Calls Tryz.prog 74 #[.int .i64 t,.string d] w fun e W'=>e= .returned (.int .i64 (dt.yo t d))∧Below w.heap.size w W':=by
 cases hh:dt.yL t
 ·have hr:dt.yo t d=6:=by unfold dt.yo;rw[hh];rfl
  have HR:=Lib.hid hr;have HH:=Lib.hid hh
  clear hr hh
  go_enter Tryz.func74,Tryz.ntmps74
  go_wp2_with (go_at_call 134;refine(QA _ _).mono ?_;rintro e w1 ⟨rfl,rfl⟩;rw[HH.out])
  go_ret
  exact⟨qH HR.out.symm,Below.refl _ _⟩
 ·by_cases hl:65535<d.size
  ·have hr:dt.yo t d=7:=by unfold dt.yo;rw[hh,if_pos rfl,if_pos hl]
   have hl':(65535:Int)<d.size:=by omega
   have HR:=Lib.hid hr;have HH:=Lib.hid hh
   clear hr hh
   go_enter Tryz.func74,Tryz.ntmps74
   go_wp2_with (go_at_call 134;refine(QA _ _).mono ?_;rintro e w1 ⟨rfl,rfl⟩;rw[HH.out])
   go_ret
   exact⟨qH HR.out.symm,Below.refl _ _⟩
  ·have hr:dt.yo t d=if dt.fits t d=true then 0 else 7:=by unfold dt.yo;rw[hh,if_pos rfl,if_neg hl]
   have hl':(d.size:Int)≤65535:=by omega
   have hl2:d.size≤65535:=by omega
   cases hf:dt.uq t with
   | none=>
     have hft:dt.fits t d=true:=by unfold dt.fits;rw[hf]
     rw[hft,if_pos rfl]at hr
     have HR:=Lib.hid hr;have HH:=Lib.hid hh;have HF:=Lib.hid hf
     clear hr hh hf hft
     go_enter Tryz.func74,Tryz.ntmps74
     go_wp2_with (first | (go_at_call 134;refine(QA _ _).mono ?_;rintro e w1 ⟨rfl,rfl⟩;rw[HH.out]) | (go_at_call 129;refine(ZQ _ _).mono ?_;rintro e w2 hp;unfold Qe at hp;rw[HF.out]at hp;obtain⟨rfl,rfl⟩:=hp))
     go_ret
     exact⟨qH HR.out.symm,Below.refl _ _⟩
   | some fs=>
     have hlen:=dt.Ud t fs hf
     have hft:dt.fits t d=match dt.zt fs d [] with
      | some (_,r)=>decide (r.size=0)
      | none=>false:=by unfold dt.fits;rw[hf]
     have HR:=Lib.hid hr;have HH:=Lib.hid hh;have HF:=Lib.hid hf
     clear hr hh hf
     cases hs:dt.zt fs d [] with
     | none=>
       rw[hs]at hft
       have hft':dt.fits t d=false:=hft
       have HS:=Lib.hid hs;have HT:=Lib.hid hft'
       clear hs hft hft'
       go_enter Tryz.func74,Tryz.ntmps74
       go_wp2_with (first | (go_at_call 134;refine(QA _ _).mono ?_;rintro e w1 ⟨rfl,rfl⟩;rw[HH.out]) | (go_at_call 129;refine(ZQ _ _).mono ?_;rintro e w2 hp;unfold Qe at hp;rw[HF.out]at hp;obtain⟨rfl,rfl⟩:=hp))
       refine(Jo fs hlen d hl2 w.heap.size _ (QN w fs) (by simp)).mono ?_
       rintro e w3 ⟨hp,hB3⟩
       rw[HS.out]at hp
       obtain rfl:=hp
       go_wp2_with fail
       go_ret
       exact⟨qH (by rw[HR.out,HT.out];rfl),((Below.refl _ w).alloc (Nat.le_refl _) _).trans (hB3.mono (by simp))⟩
     | some pr=>
       obtain⟨ps,r⟩:=pr
       rw[hs]at hft
       have hft':dt.fits t d=decide (r.size=0):=hft
       have HS:=Lib.hid hs;have HT:=Lib.hid hft'
       clear hs hft hft'
       by_cases h0:r.size=0
       ·have hd0:decide (r.size=0)=true:=by rw[decide_eq_true h0]
        have HD:=Lib.hid hd0
        clear h0 hd0
        go_enter Tryz.func74,Tryz.ntmps74
        go_wp2_with (first | (go_at_call 134;refine(QA _ _).mono ?_;rintro e w1 ⟨rfl,rfl⟩;rw[HH.out]) | (go_at_call 129;refine(ZQ _ _).mono ?_;rintro e w2 hp;unfold Qe at hp;rw[HF.out]at hp;obtain⟨rfl,rfl⟩:=hp))
        refine(Jo fs hlen d hl2 w.heap.size _ (QN w fs) (by simp)).mono ?_
        rintro e w3 ⟨hp,hB3⟩
        rw[HS.out]at hp
        obtain⟨v,rfl,hv⟩:=hp
        rw[HD.out]
        clear hv
        go_wp2_with fail
        go_ret
        exact⟨qH (by rw[HR.out,HT.out,HD.out];rfl),((Below.refl _ w).alloc (Nat.le_refl _) _).trans (hB3.mono (by simp))⟩
       ·have hd0:decide (r.size=0)=false:=by rw[decide_eq_false h0]
        have HD:=Lib.hid hd0
        clear h0 hd0
        go_enter Tryz.func74,Tryz.ntmps74
        go_wp2_with (first | (go_at_call 134;refine(QA _ _).mono ?_;rintro e w1 ⟨rfl,rfl⟩;rw[HH.out]) | (go_at_call 129;refine(ZQ _ _).mono ?_;rintro e w2 hp;unfold Qe at hp;rw[HF.out]at hp;obtain⟨rfl,rfl⟩:=hp))
        refine(Jo fs hlen d hl2 w.heap.size _ (QN w fs) (by simp)).mono ?_
        rintro e w3 ⟨hp,hB3⟩
        rw[HS.out]at hp
        obtain⟨v,rfl,hv⟩:=hp
        rw[HD.out]
        clear hv
        go_wp2_with fail
        go_ret
        exact⟨qH (by rw[HR.out,HT.out,HD.out];rfl),((Below.refl _ w).alloc (Nat.le_refl _) _).trans (hB3.mono (by simp))⟩
end Go.Proofs.YtdjjemajfphjaaaGreat
namespace Go.Proofs.YtdjjemajfphjaaaGreat
open Go.RowKit Go.Shelf
theorem info_byte:(Tryz.prog.info? 5).map (fun i=>(i.zero,i.size,i.bytes))=some (some (.int .u8 0),1,1):=by kernel_rfl
theorem KF:(Tryz.prog.info? 157).map (·.size)=some 2:=by kernel_rfl
theorem lies_builder:liesAt Tryz.prog Tryz.prog.depth 157 (2 / Tryz.prog.cellsOf 157) 0 157 1=true:=by kernel_rfl
theorem copyCheck_used (b:Nat)(w:World)(h0:w.cell? ⟨b,0,none⟩=some (.pointer (some ⟨b,0,none⟩))):
 Calls Tryz.prog 164 #[.pointer (some ⟨b,0,none⟩)] w fun e w'=>e= .returned (.tuple #[])∧w'=w:=by
 obtain⟨j,hj,_⟩:=Option.map_eq_some_iff.1 KF
 have HJ:=Lib.hid hj
 clear hj
 go_enter Tryz.func164,Tryz.ntmps164
 go_wp2
 rw[Lib.run_neq_ptr_same w _ Tryz.underlying155 HJ.out]
 go_wp2
 go_end0
 exact⟨rfl,rfl⟩
theorem VP (b:Nat)(w:World)(h0:w.cell? ⟨b,0,none⟩=some (.pointer none))(hsh:w.shape? b=some (157,2))(hfz:w.frozen? ⟨b,0,none⟩=false):
 Calls Tryz.prog 164 #[.pointer (some ⟨b,0,none⟩)] w fun e w'=>e= .returned (.tuple #[])∧w'=w.setCell ⟨b,0,none⟩ (.pointer (some ⟨b,0,none⟩)):=by
 obtain⟨j,hj,hjs⟩:=Option.map_eq_some_iff.1 KF
 have HJ:=Lib.hid hj;have HJS:=Lib.hid hjs;have HSH:=Lib.hid hsh
 clear hj hjs hsh
 go_enter Tryz.func164,Tryz.ntmps164
 go_wp2
 rw[Lib.run_to_unsafe w ⟨b,0,none⟩ Tryz.underlying155 Tryz.underlying206 HJ.out (by rw[HJS.out];decide) HSH.out (Nat.zero_lt_succ 1)]
 simp only[Result.andThen]
 rw[Oper.upon_value]
 go_wp2
 rw[run_callFunc_extern Tryz.func174 (by kernel_rfl) (by kernel_rfl) (by kernel_rfl) (e:=Extern.AbiNoEscape.same) (by kernel_rfl)]
 rw[Lib.run_noEscape]
 simp only[Result.andThen]
 rw[Oper.upon_value]
 go_wp2
 rw[Lib.run_from_unsafe w ⟨b,0,none⟩ Tryz.underlying206 Tryz.underlying155 HJ.out HSH.out lies_builder]
 simp only[Result.andThen]
 rw[Oper.upon_value]
 go_wp2
 go_end0
 exact⟨rfl,rfl⟩
theorem copyCheck_any (B b:Nat)(bs:List Value)(w:World)(h:Lib.IsBuilder 157 5 B b bs w):
 Calls Tryz.prog 164 #[.pointer (some ⟨b,0,none⟩)] w fun e w'=>e= .returned (.tuple #[])∧Lib.BuilderAt 157 5 B b (.pointer (some ⟨b,0,none⟩)) bs w'∧Below B w w':=by
 rcases h with h | h
 ·refine(VP b w h.cell0 h.shape h.frozen0).mono ?_
  rintro e w' ⟨rfl,rfl⟩
  exact⟨rfl,h.used _,(Below.refl B w).setCell (p:=⟨b,0,none⟩) h.1 _⟩
 ·refine(copyCheck_used b w h.cell0).mono ?_
  rintro e w' ⟨rfl,rfl⟩
  exact⟨rfl,h,Below.refl B _⟩
theorem Yu (B b:Nat)(bs:List Value)(s:ByteArray)(w:World)(h:Lib.IsBuilder 157 5 B b bs w)(hlen:bs.length+s.size≤140737488355328)(hBw:B≤w.heap.size):
 Calls Tryz.prog 132 #[.pointer (some ⟨b,0,none⟩),.string s] w fun e w'=>e= .returned (.tuple #[.int .i64 s.size,.nilIface])∧Lib.BuilderAt 157 5 B b (.pointer (some ⟨b,0,none⟩)) (bs ++ Lib.strCells s) w'∧Below B w w':=by
 obtain⟨i0,hi,hz0,hz1,hz2⟩:=info_parts info_byte
 have HI:=Lib.hid hi;have HZ:=Lib.hid hz0;have HZ1:=Lib.hid hz1;have HZ2:=Lib.hid hz2
 clear hi hz0 hz1 hz2
 go_enter Tryz.func132,Tryz.ntmps132
 go_wp2_with fail
 refine(copyCheck_any B b bs _ h).mono ?_
 rintro e w1 ⟨rfl,h1,hb1⟩
 obtain⟨hB,v,hbk,hown,hne⟩:=h1
 have c0:w1.cell? ⟨b,0,none⟩=some (.pointer (some ⟨b,0,none⟩)):=by rw[Lib.cell_of_heap hbk];rfl
 have c1:w1.cell? ⟨b,1,none⟩=some v:=by rw[Lib.cell_of_heap hbk];rfl
 have HBK:=Lib.hid hbk;have HOWN:=Lib.hid hown;have HNE:=Lib.hid hne
 clear hbk hown hne
 go_wp2_with (at_builtin;refine Lib.wpList_append_own_string _ rfl _ _ 108 9 rfl B 5 i0 Tryz.underlying108 Tryz.underlying9 HI.out HZ.out HZ1.out HZ2.out _ _ _ rfl HOWN.out s rfl ?c3 ?c4 ?c5 ?_)
 case c3=>unfold maxLen;omega
 case c4=>omega
 case c5=>have:=hb1.size;omega
 intro v' w2 hown' hgrow _
 have hlt:b<w1.heap.size:=qw HBK.out
 have hb2:w2.heap[b]? =some (.cells #[.pointer (some ⟨b,0,none⟩),v] 157 (0,0)):=by
  rw[hgrow.block b hlt (fun e=>HNE.out e.symm)]
  exact HBK.out
 have d0:w2.cell? ⟨b,0,none⟩=some (.pointer (some ⟨b,0,none⟩)):=by rw[Lib.cell_of_heap hb2];rfl
 have d1:w2.cell? ⟨b,1,none⟩=some v:=by rw[Lib.cell_of_heap hb2];rfl
 have f1:w2.frozen? ⟨b,1,none⟩=false:=Lib.frozen_of_heap hb2 1
 obtain⟨ao,n',cap,rfl⟩:∃ao n' cap,v'= .slice ao n' cap:=by
  rcases hown'.2 with⟨hv,_⟩|⟨g,cap,cur,hv,_⟩
  ·exact⟨_,_,_,hv⟩
  ·exact⟨_,_,_,hv⟩
 have HB2:=Lib.hid hb2;have HO:=Lib.hid hown';have HG:=Lib.hid hgrow
 clear hb2 hown' hgrow
 go_wp2
 go_ret2
 refine⟨rfl,?_,?_⟩
 ·exact Lib.BuilderAt.put (T:=157) (e:=5) hB HB2.out (bs':=bs ++ Lib.strCells s) (by simpa[Lib.strCells_length] using HO.out) (by decide)
 ·exact(hb1.grown HG.out (by have:=hb1.size;omega) (fun k hk=>(HOWN.out.lt k hk).1)).setCell (p:=⟨b,1,none⟩) hB _
theorem clone_any (s:ByteArray)(hs:s.size≤281474976710656)(w:World):Calls Tryz.prog 130 #[.string s] w fun e w'=>e= .returned (.string s)∧Below w.heap.size w w':=by
 go_enter Tryz.func130,Tryz.ntmps130
 go_wp2_with (go_at_call 163;refine(Tryz.stringslite_Clone _ _ hs).mono ?_;rintro e w1 ⟨rfl,hB1⟩)
 go_ret
 exact⟨rfl,hB1⟩
end Go.Proofs.YtdjjemajfphjaaaGreat
namespace Go.Proofs.YtdjjemajfphjaaaGreat
open Go.RowKit Go.Shelf nm
open dt (Fld)
namespace dt
def jD:Fld→ByteArray→ByteArray
 | .host,p=>qm p
 | _,p=>p
def zI:List Fld→List ByteArray→List UInt8
 | f :: fs,p :: ps=>(jD f p).data.toList ++ zI fs ps
 | _,_=>[]
def zY (t:Int)(d:ByteArray):ByteArray:=if yo t d=0 then(match uq t with
 | none=>d
 | some fs=>match zt fs d [] with
   | some (ps,_)=>⟨(zI fs ps).toArray⟩
   | none=>ByteArray.empty) else ByteArray.empty
theorem Z9:∀(fs:List Fld) (d:ByteArray) (acc ps:List ByteArray) (r:ByteArray),zt fs d acc=some (ps,r)→ps.length=acc.length+fs.length∧r.size≤d.size∧∀p∈ps,p∈acc∨p.size≤d.size:=by
 intro fs
 induction fs with
 | nil=>intro d acc ps r h;simp only[zt,Option.some.injEq,Prod.mk.injEq]at h;obtain⟨rfl,rfl⟩:=h;exact⟨by simp,Nat.le_refl _,fun p hp=>.inl hp⟩
 | cons f fs ih=>
   intro d acc ps r h
   rw[zt]at h
   split at h
   ·cases h
   ·obtain⟨h1,h2,h3⟩:=ih _ _ _ _ h
    have hx:(d.extract (jW f d).toNat d.size).size≤d.size:=by rw[ByteArray.size_extract];omega
    refine⟨by rw[h1,List.length_append,List.length_singleton,List.length_cons];omega,by omega,fun p hp=>?_⟩
    rcases h3 p hp with h4 | h4
    ·rcases List.mem_append.1 h4 with h5 | h5
     ·exact .inl h5
     ·rw[List.mem_singleton]at h5
      subst h5
      right
      rw[ByteArray.size_extract]
      have:=YO f d
      omega
    ·exact .inr (by omega)
theorem Zn (f:Fld)(p:ByteArray):(jD f p).size≤p.size:=by
 have hf:(qm p).size≤p.size:=by
  unfold qm
  split
  ·rw[U1];exact Nat.le_refl _
  ·exact Nat.zero_le _
 cases f <;> first | exact hf | exact Nat.le_refl _
end dt
theorem ta_host (w:World):(Instr.typeAssert (encF .host) 159 161 true).run Tryz.prog w= .ok (.tuple #[.agg #[],.bool true]) w:=by kernel_rfl
theorem ta_other (f:Fld)(h:f≠.host)(w:World):(Instr.typeAssert (encF f) 159 161 true).run Tryz.prog w= .ok (.tuple #[.agg #[],.bool false]) w:=by
 cases f <;> first | exact absurd rfl h | kernel_rfl
theorem xm {a b:ByteArray}(h:a=b):Ending.returned (.string a)= .returned (.string b):=by rw[h]
theorem ba_len (s:ByteArray):s.data.toList.length=s.size:=Array.length_toList
theorem xP {w:World}{a:Addr}{v:Value}(h:w.cell? a=some v):a.block<w.heap.size:=by
 rcases Nat.lt_or_ge a.block w.heap.size with hh | hh
 ·exact hh
 ·simp[World.cell?,Array.getElem?_eq_none hh]at h
theorem Yy {T e:TypeId}{B b:Nat}{bs:List Value}{w w':World}(h:Lib.IsBuilder T e B b bs w)(hb:Below w.heap.size w w'):Lib.IsBuilder T e B b bs w':=by
 have one:∀p,Lib.BuilderAt T e B b p bs w→Lib.BuilderAt T e B b p bs w':=by
  rintro p ⟨h1,v,h2,h3,h4⟩
  exact⟨h1,v,(hb.block b (qw h2)).trans h2,ownsRow_below h3 hb,h4⟩
 rcases h with h | h
 ·exact .inl (one _ h)
 ·exact .inr (one _ h)
theorem dfold_form (t:Int)(d:ByteArray)(fs:List Fld)(ps:List ByteArray)(r0:ByteArray)(U7:dt.yo t d=0)(hf:dt.uq t=some fs)(hs:dt.zt fs d []=some (ps,r0))(hd:d.size≤65535)(w:World):
 Calls Tryz.prog 73 #[.int .i64 t,.string d] w fun e W'=>e= .returned (.string (dt.zY t d))∧Below w.heap.size w W':=by
 have hres:dt.zY t d=⟨(dt.zI fs ps).toArray⟩:=by unfold dt.zY;rw[if_pos U7,hf];simp only[hs]
 have hlen:=dt.Ud t fs hf
 obtain⟨hpl,_,hps⟩:=dt.Z9 fs d [] ps r0 hs
 have hpl:ps.length=fs.length:=by simpa using hpl
 have hps':∀p∈ps,p.size≤65535:=fun p hp=>by
  rcases hps p hp with h | h
  ·simp at h
  ·omega
 have zb:=Lib.hid hres;have HCHK:=Lib.hid U7;have HF:=Lib.hid hf;have HS:=Lib.hid hs;have HPS:=Lib.hid hps';have HPL:=Lib.hid hpl
 clear hres U7 hf hs hps hps' hpl
 go_enter Tryz.func73,Tryz.ntmps73
 go_wp2_with fail
 refine(kQ t d _).mono ?_
 rintro e w1 ⟨rfl,hB1⟩
 rw[HCHK.out]
 go_wp2_with fail
 refine(ZQ t _).mono ?_
 rintro e w2 hp
 unfold Qe at hp
 rw[HF.out]at hp
 obtain⟨rfl,rfl⟩:=hp
 go_wp2_with fail
 refine(Jo fs hlen d hd w1.heap.size _ (QN w1 fs) (by simp)).mono ?_
 rintro e w3 ⟨hp,hB3⟩
 rw[HS.out]at hp
 obtain⟨v,rfl,hv⟩:=hp
 obtain⟨av,cv,rfl,hcv,fv⟩:=KJ hv (W':=w3) (fun g _=>rfl)
 have FV:=Lib.hid fv
 have z1:=hB1.size;have z3:=hB3.size
 simp only[World.size_alloc]at z3
 have hfld:FldRow w3 w1.heap.size fs:=fun j hj=>(hB3.cell (p:=⟨w1.heap.size,j,none⟩) (by simp)).trans (QN w1 fs j hj)
 have HFLD:=Lib.hid hfld
 have HBW:=Lib.hid ((hB1.alloc z1 (.cells (fs.map encF).toArray 159)).trans (hB3.mono (by simp;omega)))
 have HBU:=Lib.hid (Lib.fresh_isBuilder 157 5 w3)
 clear fv hv hfld
 go_wp2_with fail
 go_loopw [35,10,11,12,13] (fun kv _ _ _ _ wr=>∃(k:Nat) (acc:List UInt8),k≤fs.length∧kv= .int .i64 k∧acc.length≤k*65535∧acc ++ dt.zI (fs.drop k) (ps.drop k)=dt.zI fs ps∧
  Lib.IsBuilder 157 5 w3.heap.size w3.heap.size (Lib.byteCells acc) wr∧Below w3.heap.size w3 wr) (fun kv _ _ _ _ _=>fs.length-(intOf kv).toNat)
 case atStart=>exact⟨0,[],by omega,rfl,by simp,by simp,HBU.out,(Below.refl _ _).alloc (Nat.le_refl _) _⟩
 case round=>
  obtain⟨k,acc,hk,rfl,hal,hacc,hbu,hb⟩:=hrel
  have HACC:=Lib.hid hacc;have HBUI:=Lib.hid hbu;have HB:=Lib.hid hb
  clear hacc hbu hb
  have hz:=HB.out.size
  by_cases hlt:k<fs.length
  ·have hkp:k<ps.length:=by have:=HPL.out;omega
   have hcell:wr.cell? ⟨w1.heap.size,k,none⟩=some (encF fs[k]):=(HB.out.cell (p:=⟨w1.heap.size,k,none⟩) (by show w1.heap.size<w3.heap.size;omega)).trans (HFLD.out k hlt)
   obtain⟨gv,rfl,cx⟩:=FV.out k hkp
   have cx':wr.cell? ⟨gv,k,none⟩=some (.string ps[k]):=(HB.out.cell (p:=⟨gv,k,none⟩) (xP cx)).trans cx
   have cx2:=fun o=>qx (W:=wr) o cx'
   have hsz:=HPS.out ps[k] (List.getElem_mem _)
   have hfp:=dt.Zn fs[k] ps[k]
   have hnx:(acc ++ (dt.jD fs[k] ps[k]).data.toList) ++ dt.zI (fs.drop (k+1)) (ps.drop (k+1))=dt.zI fs ps:=by
    rw[← HACC.out,List.drop_eq_getElem_cons hlt,List.drop_eq_getElem_cons hkp,dt.zI,List.append_assoc]
   have hal2:(acc ++ (dt.jD fs[k] ps[k]).data.toList).length≤(k+1)*65535:=by
    rw[List.length_append]
    have:=ba_len (dt.jD fs[k] ps[k])
    omega
   have hbl:(Lib.byteCells acc).length=acc.length:=Lib.byteCells_length acc
   have hbig:(Lib.byteCells acc).length+(dt.jD fs[k] ps[k]).size≤140737488355328:=by
    have:k*65535≤100*65535:=Nat.mul_le_mul_right _ (by omega)
    omega
   have hcells:Lib.byteCells acc ++ Lib.strCells (dt.jD fs[k] ps[k])=Lib.byteCells (acc ++ (dt.jD fs[k] ps[k]).data.toList):=by
    simp[Lib.byteCells,Lib.strCells]
   have HNX:=Lib.hid hnx;have Kn:=Lib.hid hal2;have HBIG:=Lib.hid hbig;have HCE:=Lib.hid hcells;have CX:=Lib.hid cx
   clear hnx hal2 hbl hbig hcells cx
   by_cases hh:fs[k]= .host
   ·have hta:=ta_host
    rw[hh]at hcell
    have hfo:dt.jD fs[k] ps[k]=qm ps[k]:=by rw[hh];rfl
    have HFO:=Lib.hid hfo;have HH:=Lib.hid hh
    clear hfo hh
    go_wp2_with fail
    refine(je ps[k] _).mono ?_
    rintro e w5 ⟨rfl,hB5⟩
    have hbA:=(Below.refl wr.heap.size wr).alloc (Nat.le_refl _) (.cells #[] 161)
    have hb5:=hbA.trans (hB5.mono (by simp))
    have hbu5:=Yy HBUI.out hb5
    have z5:=hb5.size
    rw[HFO.out]at HNX Kn HBIG HCE
    go_wp2_with fail
    refine(Yu w3.heap.size w3.heap.size _ (qm ps[k]) w5 hbu5 HBIG.out (by omega)).mono ?_
    rintro e w6 ⟨rfl,hbu6,hB6⟩
    rw[HCE.out]at hbu6
    have HBU6:=Lib.hid hbu6
    have HB6:=Lib.hid ((HB.out.trans (hb5.mono hz)).trans hB6)
    clear hbu5 hbu6
    go_wp2_with fail
    go_roundw
    case rel=>exact⟨k+1,_,by omega,by go_num,Kn.out,HNX.out,.inr HBU6.out,HB6.out⟩
    case measure=>simp[intOf];omega
   ·have hta:=ta_other fs[k] hh
    have hfo:dt.jD fs[k] ps[k]=ps[k]:=by
     cases hfk:fs[k] <;> first | rfl | exact absurd hfk hh
    have HFO:=Lib.hid hfo;have HH:=Lib.hid hh
    clear hfo hh
    go_wp2_with fail
    have hbA:=(Below.refl wr.heap.size wr).alloc (Nat.le_refl _) (.cells #[] 161)
    have hbu5:=Yy HBUI.out hbA
    rw[HFO.out]at HNX Kn HBIG HCE
    refine(Yu w3.heap.size w3.heap.size _ ps[k] _ hbu5 HBIG.out (by simp;omega)).mono ?_
    rintro e w6 ⟨rfl,hbu6,hB6⟩
    rw[HCE.out]at hbu6
    have HBU6:=Lib.hid hbu6
    have HB6:=Lib.hid ((HB.out.trans (hbA.mono hz)).trans hB6)
    clear hbu5 hbu6
    go_wp2_with fail
    go_roundw
    case rel=>exact⟨k+1,_,by omega,by go_num,Kn.out,HNX.out,.inr HBU6.out,HB6.out⟩
    case measure=>simp[intOf];omega
  ·have hke:k=fs.length:=by omega
   have hfin:dt.zI fs ps=acc:=by
    rw[← HACC.out,hke,List.drop_length]
    simp[dt.zI]
   have JJ:=Lib.hid hfin
   clear hke hfin
   go_wp2_with fail
   refine(Tryz.Builder_String_any w3.heap.size w3.heap.size acc wr HBUI.out hz).mono ?_
   rintro e w6 ⟨rfl,hB6⟩
   go_wp2_with fail
   go_ret
   exact⟨xm (by rw[zb.out,JJ.out]),HBW.out.trans ((HB.out.trans hB6).mono (by omega))⟩
theorem U8 (t:Int)(d:ByteArray)(w:World):Calls Tryz.prog 73 #[.int .i64 t,.string d] w fun e W'=>e= .returned (.string (dt.zY t d))∧Below w.heap.size w W':=by
 by_cases hc:dt.yo t d=0
 ·have hd:d.size≤65535:=by
   unfold dt.yo at hc
   repeat' split at hc
   all_goals omega
  cases hf:dt.uq t with
  | none=>
    have hres:dt.zY t d=d:=by unfold dt.zY;rw[if_pos hc,hf]
    have HR:=Lib.hid hres;have HC:=Lib.hid hc;have HF:=Lib.hid hf
    clear hres hc hf
    go_enter Tryz.func73,Tryz.ntmps73
    go_wp2_with fail
    refine(kQ t d _).mono ?_
    rintro e w1 ⟨rfl,hB1⟩
    rw[HC.out]
    go_wp2_with fail
    refine(ZQ t _).mono ?_
    rintro e w2 hp
    unfold Qe at hp
    rw[HF.out]at hp
    obtain⟨rfl,rfl⟩:=hp
    go_wp2_with fail
    refine(clone_any d (by omega) _).mono ?_
    rintro e w3 ⟨rfl,hB3⟩
    go_wp2_with fail
    go_ret
    exact⟨xm (by rw[HR.out]),hB1.trans (hB3.mono hB1.size)⟩
  | some fs=>
    cases hs:dt.zt fs d [] with
    | none=>
      exfalso
      unfold dt.yo dt.fits at hc
      rw[hf]at hc
      simp only[hs]at hc
      repeat' split at hc
      all_goals first | omega | (rename_i h;cases h)
    | some pr=>
      obtain⟨ps,r0⟩:=pr
      exact dfold_form t d fs ps r0 hc hf hs hd w
 ·have hres:dt.zY t d=ByteArray.empty:=by unfold dt.zY;rw[if_neg hc]
  have hb:(dt.yo t d == 0)=false:=by rw[beq_eq_false_iff_ne];exact hc
  have hb':(dt.yo t d != 0)=true:=by rw[bne_iff_ne];exact hc
  have HR:=Lib.hid hres
  clear hres hc
  go_enter Tryz.func73,Tryz.ntmps73
  go_wp2_with fail
  refine(kQ t d _).mono ?_
  rintro e w1 ⟨rfl,hB1⟩
  go_wp2_with fail
  go_ret
  exact⟨by rw[HR.out];rfl,hB1⟩
end Go.Proofs.YtdjjemajfphjaaaGreat
