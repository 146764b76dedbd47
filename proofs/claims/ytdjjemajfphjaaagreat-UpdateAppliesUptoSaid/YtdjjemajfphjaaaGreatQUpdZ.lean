import Derived.Test.YtdjjemajfphjaaaGreatQUpdW
import Derived.Test.YtdjjemajfphjaaaGreatQUpdH
import Derived.Deep.RegionHeld3
import Derived.Deep.CutBlock
set_option maxRecDepth 100000
set_option maxHeartbeats 16000000
namespace Go.Proofs.YtdjjemajfphjaaaGreat
open Go.RowKit Go.Shelf Go.WideMaps nm od
def VJ (x:Rec):Prop:=∀(base st:Nat) (qf:ByteArray) (l:List Rec) (w:World),l.length≤100000→(∀y∈l,up.jO y)→base≤w.heap.size→zR w base st qf l→
 Calls Tryz.prog (if x.cls=1 then 41 else if x.cls=255 then 42 else 43) #[.pointer (some ⟨st,0,none⟩),zB x] w fun e w'=>xI w base st qf (up.zO qf l x) e w'
theorem VF {x:Rec}(h1:x.cls=1)(h5:x.typ≠5)(h6:x.typ≠6)(hx:ql x.owner=true):VJ x:=by
 intro base st qf l w hl hin hb hs
 rw[if_pos h1]
 have h:=add_any x h1 h5 h6 base st qf l (by omega) w hb hs
 rw[up.add_law hx (fun y hy=>(hin y hy).1) h5 h6]at h
 have e:up.zO qf l x=up.Z4 qf l x:=by unfold up.zO;rw[if_pos h1]
 rw[e];exact h
def ApplyPost (qf:ByteArray)(L:List Rec)(h:Hd)(qs:List Qn)(an au ad:List Rec)(w:World)(e:Ending)(w':World):Prop:=Below w.heap.size w w'∧
 ((up.zN qf L h qs an au ad≠0∧e= .returned (.tuple #[.pointer none,.int .i64 (up.zN qf L h qs an au ad)]))∨
   (up.zN qf L h qs an au ad=0∧zn.yY qf (up.Yf qf L au)≠none∧e= .returned (.tuple #[.pointer none,.int .i64 5]))∨
   (up.zN qf L h qs an au ad=0∧zn.yY qf (up.Yf qf L au)=none∧∃top z L',zQ (up.Yf qf L au) L'∧e= .returned (.tuple #[.pointer (some ⟨z,0,none⟩),.int .i64 0])∧xu w' top z qf L'))
structure JR (w0 wr:World)(base st:Nat)(va:Option Addr)(gc:Nat)(qf:ByteArray)(F:Rec→Rec)(N:List Rec)(j:Nat):Prop where
 stb:wr.heap[st]? =some (.cells #[.string qf,.slice va N.length gc] 80 (0,0))
 row:wr.ownsRow base 51 5 (.slice va N.length gc) N.length (qG ((N.take j).map F ++ N.drop j))
 below:Below base w0 wr
theorem JR.under {w0 wr wx:World}{base st:Nat}{va:Option Addr}{gc:Nat}{qf:ByteArray}{F:Rec→Rec}{N:List Rec}{j:Nat}(h:JR w0 wr base st va gc qf F N j)(hb:base≤wr.heap.size)(hB:Below wr.heap.size wr wx):JR w0 wx base st va gc qf F N j:=
 ⟨(hB.block st (qw h.stb)).trans h.stb,ownsRow_below h.row hB,h.below.trans (hB.mono hb)⟩
theorem JR.store {w0 wr:World}{base st g gc:Nat}{qf:ByteArray}{F:Rec→Rec}{y:Rec}{N:List Rec}{j:Nat}(h:JR w0 wr base st (some ⟨g,0,none⟩) gc qf F N j)(hj:j<N.length)(hy:y=N[j]){t:ByteArray}(hf:F y= { y with data:=t}):
 JR w0 (wr.setCell ⟨g,j*5+4,none⟩ (.string t)) base st (some ⟨g,0,none⟩) gc qf F N (j+1):=by
 have hgst:g≠st:=fun e=>jb h.row h.stb (by rw[e];rfl)
 have hlen:j<((N.take j).map F ++ N.drop j).length:=by rw[up.xW];exact hj
 obtain⟨h1,_⟩:=h.row.stored (j*5+4) (.string t)
 have e:(qG ((N.take j).map F ++ N.drop j)).set (j*5+4) (.string t)=qG ((N.take (j+1)).map F ++ N.drop (j+1)):=by
  rw[XC t _ j hlen,up.KM hj hlen,← up.XE hj,← hy,hf]
 rw[e]at h1
 exact⟨(Below.heap_setCell _ _ _ _ (by simp only;exact Ne.symm hgst)).trans h.stb,h1,h.below.setCell (p:=⟨g,j*5+4,none⟩) (h.row.lt g rfl).1 _⟩
theorem Xp {qf:ByteArray}{L:List Rec}(hv:zn.Valid qf L):∃r0 rest,zn.qD L (qm qf,6)=r0 :: rest∧20≤r0.data.size∧r0.data.size≤65535:=by
 obtain⟨r,hr,h6,_,hf⟩:=zn.soa_rec hv
 have hm:r∈zn.qD L (qm qf,6):=zn.ky.2 ⟨hr,by unfold zn.zh;rw[hf,h6]⟩
 obtain⟨r0,rest,h0⟩:∃r0 rest,zn.qD L (qm qf,6)=r0 :: rest:=by
  cases h:zn.qD L (qm qf,6) with
  | nil=>rw[h]at hm;cases hm
  | cons a b=>exact⟨a,b,rfl⟩
 have hm0:r0∈zn.qD L (qm qf,6):=by rw[h0];exact List.mem_cons_self ..
 obtain⟨h1,h2⟩:=zn.ky.1 hm0
 have ht:r0.typ=6:=congrArg Prod.snd h2
 have U7:dt.yo 6 r0.data=0:=by
  have:=(hv.each r0 h1).2.1
  unfold zn.jV at this
  simp only[Bool.not_eq_false',Bool.and_eq_true,decide_eq_true_eq]at this
  rw[← ht]
  exact this.2
 exact⟨r0,rest,h0,dt.Xo U7⟩
theorem next_nat {n:Nat}(h:n<4294967296):∃m:Nat,up.XH (n:Int)=(m:Int)∧m<4294967296:=by
 unfold up.XH
 split
 ·exact⟨1,rfl,by omega⟩
 ·exact⟨n+1,by omega,by omega⟩
theorem max_next (a:Nat)(h:a<4294967296):max (IntKind.u32.wrap ((a:Int)+1)) 1=up.XH (a:Int):=by
 rw[IntKind.wrap_u32]
 unfold up.XH
 split <;> omega
def NewAns (qf:ByteArray)(l:List Rec)(p:Value)(k c:Int)(w':World):Prop:=
 (zn.yY qf l=none∧k=0∧c=0∧∃top z L,zQ l L∧p= .pointer (some ⟨z,0,none⟩)∧xu w' top z qf L)∨(zn.yY qf l≠none∧c≠0∧p= .pointer none)
theorem new_ans (qf:ByteArray)(l:List Rec)(hok:∀r∈l,(Lit.int .i64 r.typ).wf=true)(rv:Value)(hf:yS rv)(w:World)(hrv:qy w rv l):
 Calls Tryz.prog 17 #[.string qf,rv] w fun e w'=>∃p k c,e= .returned (.tuple #[p,.int .i64 k,.int .i64 c])∧NewAns qf l p k c w'∧Below w.heap.size w w':=by
 refine(new_any qf l hok rv hf w hrv).mono ?_
 intro e w' hp
 rcases hne:zn.yY qf l with _ | ⟨k0,c0⟩
 ·obtain⟨hB,z,L,_,hs,rfl,hzf⟩:=KR hp hne
  exact⟨_,_,_,rfl,.inl ⟨hne,rfl,rfl,_,z,L,hs,rfl,hzf⟩,hB⟩
 ·obtain⟨hB,rfl⟩:=newPost_bad hp hne
  exact⟨_,_,_,rfl,.inr ⟨by rw[hne];simp,zn.newE_code hne,rfl⟩,hB⟩
theorem Xn (top z:Nat)(qf:ByteArray)(L:List Rec)(hva:zn.Valid qf L)(h:Hd)(qs:List Qn)(an au ad:List Rec)(hq:qs.length≤1000000000000)(ha:an.length≤1000000000000)(hu:au.length≤1000000000000)(hd:ad.length≤1000000000000)
 (hch:up.zN qf L h qs an au ad=0→∀x∈au,VJ x) (q a u d:Value) (w:World) (hz:xu w top z qf L)
 (rq:kJ w q qs) (ra:qy w a an) (ru:qy w u au) (rd:qy w d ad):
 Calls Tryz.prog 12 #[.pointer (some ⟨z,0,none⟩),Yg h q a u d] w fun e w'=>ApplyPost qf L h qs an au ad w e w':=by
 obtain⟨w1,hw1⟩:∃X,X=w.alloc (.cells (Yh h q a u d).toArray 25):=⟨_,rfl⟩
 obtain⟨hB1,hs1,hm1⟩:=uJ hw1
 obtain⟨bm,hbm⟩:∃b,b=w.heap.size:=⟨_,rfl⟩
 rw[← hbm]at hm1
 have CC:=Lib.hid (ucheck_any top z qf L hva h qs an au ad hq ha hu hd q a u d w1 (hz.kept hB1) (rq.below hB1) (ra.below hB1) (ru.below hB1) (rd.below hB1))
 have HM:=Lib.hid hm1;have HVA:=Lib.hid hva;have HW1:=Lib.hid hw1;have HBM:=Lib.hid hbm;have HB1:=Lib.hid hB1
 have HZ:=Lib.hid hz;have HU:=Lib.hid (ru.below hB1);have HUU:=Lib.hid ru
 have HIN:=Lib.hid (up.valid_in hva (up.Xk hva));have HLOK:=Lib.hid (up.Xk hva);have HCH0:=Lib.hid hch
 obtain⟨qa,qc,rfl,-⟩:=id rq
 obtain⟨aa,ac,rfl,-⟩:=id ra
 obtain⟨ua,uc,rfl,-⟩:=id ru
 obtain⟨da,dc,rfl,-⟩:=id rd
 clear hva hw1 hbm hz rq ra ru rd hB1 hs1 hm1 hch
 obtain⟨m0,m1,m2,m3,m4,m5,m6,m7,m8,m9,m10,m11,m12,m13⟩:=(HM.out.below (Below.refl _ _)).facts
 go_enter Tryz.func12,Tryz.ntmps12
 go_upto_region 1 with fail
 rw[← HW1.out,← HBM.out]
 go_wp2_with fail
 refine CC.out.mono ?_
 rintro e w2 ⟨rfl,hB2⟩
 have Uv:=Lib.hid hB2
 have HB2:=Lib.hid (HB1.out.trans (hB2.mono HB1.out.size))
 obtain⟨cs,hcs⟩:∃cs,cs=up.zN qf L h qs an au ad:=⟨_,rfl⟩
 rw[← hcs]
 have HCS:=Lib.hid hcs
 clear m0 m1 m2 m3 m4 m5 m6 m7 m8 m9 m10 m11 m12 m13
 clear hB2 hcs
 by_cases hc0:cs=0
 ·have d0:(cs != 0)=false:=by rw[bne_eq_false_iff_eq];exact hc0
  have HC0:=Lib.hid (show up.zN qf L h qs an au ad=0 by rw[← HCS.out];exact hc0)
  have HCH:=Lib.hid (HCH0.out HC0.out)
  have HMS:=Lib.hid (show wi.jI h qs an au ad=true by
   have h1:=HC0.out
   cases hh:up.xn h qs an au ad
   ·rw[up.Uf hh]at h1;cases h1
   ·exact(up.xC hh).2.1)
  have HCIN:=Lib.hid (up.msg_in HMS.out (up.msg_ok HMS.out).2)
  have HLEN:=Lib.hid (show au.length≤65535 by
   have h1:=HMS.out
   unfold wi.jI at h1
   simp only[Bool.and_eq_true]at h1
   have h2:=h1.1.1.1.1.2
   unfold wi.XR at h2
   exact(of_decide_eq_true h2).2.2.1)
  clear hc0
  go_wp2_with fail
  refine(uw top z qf L HVA.out.small w2 (HZ.out.kept HB2.out).v).mono ?_
  rintro e w4 ⟨v3,rfl,hB4,hown3⟩
  have Uw:=Lib.hid (HB2.out.trans (hB4.mono HB2.out.size))
  have HB14:=Lib.hid (Uv.out.trans (hB4.mono Uv.out.size))
  have HR3:=Lib.hid (qO hown3)
  obtain⟨va3,vc3,rfl,-⟩:=qC hown3
  clear hB4 hown3 d0
  obtain⟨base0,rg0,cap0,sb0,tb0,l0,-,hza,-⟩:=(HZ.out.kept Uw.out).v.parts
  have HZA:=Lib.hid hza
  clear hza
  go_wp2_with fail
  refine(ve z qf _ _ _ w4 HZA.out).mono ?_
  rintro e wN ⟨rfl,hE⟩
  obtain rfl:=hE.symm
  go_wp2_with fail
  refine(uw top z qf L HVA.out.small w4 (HZ.out.kept Uw.out).v).mono ?_
  rintro e w5 ⟨v5,rfl,hB5,hown5⟩
  obtain⟨w6,hw6⟩:∃X,X=w5.alloc (.cells #[.string qf,v5] 80):=⟨_,rfl⟩
  obtain⟨st,hst⟩:∃b,b=w5.heap.size:=⟨_,rfl⟩
  have hB6:Below w5.heap.size w5 w6:=by rw[hw6];exact(Below.refl _ w5).alloc (Nat.le_refl _) _
  have HB46:=Lib.hid (hB5.trans (hB6.mono hB5.size))
  have HST6:=Lib.hid (show zR w6 w4.heap.size st qf L from⟨v5,by rw[hw6];exact qo hst,by rw[hst];exact hB5.size,ownsRow_below hown5 hB6⟩)
  obtain⟨va5,vc5,rfl,-⟩:=qC hown5
  have HW6:=Lib.hid hw6;have HSTE:=Lib.hid hst
  clear hB5 hown5 hw6 hst hB6
  go_upto_region 6 with fail
  rw[← HW6.out,← HSTE.out]
  obtain⟨m0,m1,m2,m3,m4,m5,m6,m7,m8,m9,m10,m11,m12,m13⟩:=(HM.out.below (HB14.out.trans (HB46.out.mono HB14.out.size))).facts
  go_wp2_with fail
  clear m0 m1 m2 m3 m4 m5 m6 m7 m8 m9 m10 m11 m12 m13
  go_loopw [34] (fun kv wr=>∃k:Nat,k≤au.length∧kv= .int .i64 (k:Int)∧Hid (zR wr w4.heap.size st qf (up.zK qf L (au.take k))∧Below w4.heap.size w4 wr)) (fun kv _=>au.length-(intOf kv).toNat)
  case atStart=>exact⟨0,Nat.zero_le _,rfl,Lib.hid ⟨HST6.out,HB46.out⟩⟩
  case round=>
   obtain⟨k,hk,rfl,HR⟩:=hrel
   obtain⟨w3,hw3⟩:∃X:World,X=wr:=⟨_,rfl⟩
   subst hw3
   have HBR:=Lib.hid (Uw.out.trans (HR.out.2.mono Uw.out.size))
   by_cases hlt:k<au.length
   ·obtain⟨bb,off,rfl⟩:=yI HUU.out (Nat.lt_of_le_of_lt (Nat.zero_le _) hlt)
    have hki:(k:Int)<(au.length:Int):=by omega
    obtain⟨c0,c1,c2,c3,c4⟩:=yP (HUU.out.below HBR.out) hlt
    obtain⟨x,hx⟩:∃x,x=au[k]:=⟨_,rfl⟩
    rw[← hx]at c0 c1 c2 c3 c4
    obtain⟨wa,hwa⟩:∃W,W=w3.alloc (.cells (recC x).toArray 51):=⟨_,rfl⟩
    obtain⟨hBa,hsa,hxa⟩:=qM w3 wa x hwa
    obtain⟨bx,hbx⟩:∃b,b=w3.heap.size:=⟨_,rfl⟩
    rw[← hbx]at hxa
    have HWA:=Lib.hid hwa;have HX:=Lib.hid hx;have HLT:=Lib.hid hlt;have HXA:=Lib.hid hxa;have HBX:=Lib.hid hbx;have HAL:=Lib.hid hBa
    have HBA:=Lib.hid (Below.trans HBR.out (hBa.mono (Below.size HBR.out)))
    clear hwa hx hBa hsa hxa hbx
    go_upto_region 9 with fail
    rw[← HWA.out,← HBX.out]
    clear c0 c1 c2 c3 c4 hki
    obtain⟨x0,x1,x2,x3,x4⟩:=id HXA.out
    have HST:=Lib.hid (HR.out.1.below HAL.out)
    have HSZ:=Lib.hid (Nat.le_trans HR.out.2.size HAL.out.size)
    by_cases k1:x.cls=1
    ·have d1:(x.cls == 1)=true:=by rw[beq_iff_eq];exact k1
     have K1:=Lib.hid k1
     clear k1
     have hcall:=HCH.out x (by rw[HX.out];exact List.getElem_mem HLT.out) w4.heap.size st qf (up.zK qf L (au.take k)) wa (Nat.le_trans (up.vK _ _ _) (by have h1:=HVA.out.small;have h2:=List.length_take_le k au;have h3:=HLEN.out;omega)) (up.xE HIN.out fun r hr=>HCIN.out r (List.mem_of_mem_take hr)) HSZ.out HST.out
     rw[if_pos K1.out]at hcall
     have Qd:=Lib.hid hcall
     clear hcall
     go_wp2_with fail
     refine Qd.out.mono ?_
     rintro e w7 ⟨rfl,hst,hB7⟩
     have HST7:=Lib.hid (show zR w7 w4.heap.size st qf (up.zK qf L (au.take (k+1))) by
      rw[List.take_succ_eq_append_getElem HLT.out,up.Qt,← HX.out];exact hst)
     have HB7:=Lib.hid (show Below w4.heap.size w4 w7 from(HR.out.2.trans (HAL.out.mono HR.out.2.size)).trans hB7)
     clear hst hB7 x0 x1 x2 x3 x4
     go_wp2_with fail
     go_roundw
     case rel=>
      first
       | exact⟨k+1,by omega,by go_num,Lib.hid ⟨HST7.out,HB7.out⟩⟩
       | (repeat apply Exists.intro
          refine And.intro ?_ ?_
          rotate_left
          ·repeat (first | exact rfl | refine And.intro rfl ?_)
          exact⟨k+1,by omega,by go_num,Lib.hid ⟨HST7.out,HB7.out⟩⟩)
     case measure=>simp[intOf];omega
    ·have d1:(x.cls == 1)=false:=by rw[beq_eq_false_iff_ne];exact k1
     have K1:=Lib.hid k1
     by_cases k2:x.cls=255
     ·have d2:(x.cls == 255)=true:=by rw[beq_iff_eq];exact k2
      have K2:=Lib.hid k2
      clear k1 k2
      have hcall:=HCH.out x (by rw[HX.out];exact List.getElem_mem HLT.out) w4.heap.size st qf (up.zK qf L (au.take k)) wa (Nat.le_trans (up.vK _ _ _) (by have h1:=HVA.out.small;have h2:=List.length_take_le k au;have h3:=HLEN.out;omega)) (up.xE HIN.out fun r hr=>HCIN.out r (List.mem_of_mem_take hr)) HSZ.out HST.out
      rw[if_neg K1.out,if_pos K2.out]at hcall
      have Qd:=Lib.hid hcall
      clear hcall
      go_wp2_with fail
      refine Qd.out.mono ?_
      rintro e w7 ⟨rfl,hst,hB7⟩
      have HST7:=Lib.hid (show zR w7 w4.heap.size st qf (up.zK qf L (au.take (k+1))) by
       rw[List.take_succ_eq_append_getElem HLT.out,up.Qt,← HX.out];exact hst)
      have HB7:=Lib.hid (show Below w4.heap.size w4 w7 from(HR.out.2.trans (HAL.out.mono HR.out.2.size)).trans hB7)
      clear hst hB7 x0 x1 x2 x3 x4
      go_wp2_with fail
      go_roundw
      case rel=>
       first
        | exact⟨k+1,by omega,by go_num,Lib.hid ⟨HST7.out,HB7.out⟩⟩
        | (repeat apply Exists.intro
           refine And.intro ?_ ?_
           rotate_left
           ·repeat (first | exact rfl | refine And.intro rfl ?_)
           exact⟨k+1,by omega,by go_num,Lib.hid ⟨HST7.out,HB7.out⟩⟩)
      case measure=>simp[intOf];omega
     ·have d2:(x.cls == 255)=false:=by rw[beq_eq_false_iff_ne];exact k2
      have K2:=Lib.hid k2
      clear k1 k2
      have hcall:=HCH.out x (by rw[HX.out];exact List.getElem_mem HLT.out) w4.heap.size st qf (up.zK qf L (au.take k)) wa (Nat.le_trans (up.vK _ _ _) (by have h1:=HVA.out.small;have h2:=List.length_take_le k au;have h3:=HLEN.out;omega)) (up.xE HIN.out fun r hr=>HCIN.out r (List.mem_of_mem_take hr)) HSZ.out HST.out
      rw[if_neg K1.out,if_neg K2.out]at hcall
      have Qd:=Lib.hid hcall
      clear hcall
      go_wp2_with fail
      refine Qd.out.mono ?_
      rintro e w7 ⟨rfl,hst,hB7⟩
      have HST7:=Lib.hid (show zR w7 w4.heap.size st qf (up.zK qf L (au.take (k+1))) by
       rw[List.take_succ_eq_append_getElem HLT.out,up.Qt,← HX.out];exact hst)
      have HB7:=Lib.hid (show Below w4.heap.size w4 w7 from(HR.out.2.trans (HAL.out.mono HR.out.2.size)).trans hB7)
      clear hst hB7 x0 x1 x2 x3 x4
      go_wp2_with fail
      go_roundw
      case rel=>
       first
        | exact⟨k+1,by omega,by go_num,Lib.hid ⟨HST7.out,HB7.out⟩⟩
        | (repeat apply Exists.intro
           refine And.intro ?_ ?_
           rotate_left
           ·repeat (first | exact rfl | refine And.intro rfl ?_)
           exact⟨k+1,by omega,by go_num,Lib.hid ⟨HST7.out,HB7.out⟩⟩)
      case measure=>simp[intOf];omega
   ·obtain rfl:k=au.length:=by omega
    have hR:=HR.out
    rw[List.take_length]at hR
    obtain⟨N,hN⟩:∃N,N=up.zK qf L au:=⟨_,rfl⟩
    rw[← hN]at hR
    have HNN:=Lib.hid hN
    have HNIN:=Lib.hid (show ∀y∈N,up.jO y by rw[hN];exact up.xE HIN.out HCIN.out)
    have HNLEN:=Lib.hid (show N.length≤100000 by
     rw[hN]
     have h1:=up.vK qf au L
     have h2:=HVA.out.small
     have h3:=HLEN.out
     omega)
    obtain⟨va,vc,hsb,hrow⟩:=hR.1.parts
    have HSB:=Lib.hid hsb;have yU:=Lib.hid hrow;have HB43:=Lib.hid hR.2
    have HBST:=Lib.hid hR.1.kI
    clear hlt HR hR hN hsb hrow
    obtain⟨pb,hpb⟩:∃pb,pb=decide (L.Perm N):=⟨_,rfl⟩
    have HPB:=Lib.hid hpb
    have HRA:=Lib.hid (show ∀X,Below w3.heap.size w3 X→qy X (.slice va3 L.length vc3) L from fun X hX=>HR3.out.below (HB43.out.trans (hX.mono HB43.out.size)))
    have HRB:=Lib.hid (show ∀X,Below w3.heap.size w3 X→qy X (.slice va N.length vc) N from fun X hX=>(qO yU.out).below hX)
    have HBAGA:=Lib.hid (show ∀X,Below w3.heap.size w3 X→Calls Tryz.prog 45 #[.slice va3 L.length vc3] X fun e w'=>∃b,e= .returned (.map (some b))∧Below X.heap.size X w'∧vk w' b L from fun X hX=>(bag_any L (by have:=HVA.out.small;omega) HLOK.out _ X (HRA.out X hX)).mono fun _ _ h=>⟨_,h⟩)
    have HBAGB:=Lib.hid (show ∀X,Below w3.heap.size w3 X→Calls Tryz.prog 45 #[.slice va N.length vc] X fun e w'=>∃b,e= .returned (.map (some b))∧Below X.heap.size X w'∧vk w' b N from fun X hX=>(bag_any N (by have:=HNLEN.out;omega) (fun r hr=>(HNIN.out r hr).2.1) _ X (HRB.out X hX)).mono fun _ _ h=>⟨_,h⟩)
    have HEQ:=Lib.hid (show ∀(X:World) (b1 b2:Nat),vk X b1 L→vk X b2 N→Calls Tryz.prog 44 #[.map (some b1),.map (some b2)] X fun e w'=>e= .returned (.bool pb)∧Below X.heap.size X w' from fun X b1 b2 g1 g2=>by
     have h:=equalRecs_any (up.Vh L) (up.Vh N) (fun a=>((L.count a:Nat):Int)) (fun a=>((N.count a:Nat):Int)) b1 b2 X g1 g2
     rw[up.bag_perm,← HPB.out]at h
     exact h)
    have s1:w3.cell? ⟨st,1,none⟩=some (.slice va N.length vc):=by rw[qg HSB.out];rfl
    have stl:st<w3.heap.size:=qw HSB.out
    have Yt:=Lib.hid (show ∀X:World,Below w3.heap.size w3 X→Below w3.heap.size w3 X∧X.cell? ⟨st,1,none⟩=some (.slice va N.length vc) from fun X hX=>⟨hX,(hX.cell (p:=⟨st,1,none⟩) stl).trans s1⟩)
    clear hpb
    go_upto_region 16 with fail
    clear s1 stl
    go_cut [62] (fun t wx=>t= .bool (!pb)∧Below w3.heap.size w3 wx)
    case first=>
     go_region_held3 (fun X=>Below w3.heap.size w3 X∧X.cell? ⟨st,1,none⟩=some (.slice va N.length vc))
      (first | assumption | exact Yt.out _ (Below.refl _ _).drew | (go_split_ands;exact Yt.out _ (by assumption)))
      (first
       | (go_at_call 45;(with_reducible refine(HBAGA.out _ (by go_split_ands;assumption)).mono ?_);rintro e wA ⟨bA,rfl,hbA,hoA⟩;go_split_ands;have QM:=Below.trans (B:=w3.heap.size) (a:=w3) (by assumption) (hbA.mono (Below.size (by assumption))))
       | (go_at_call 45;(with_reducible refine(HBAGB.out _ (by go_split_ands;assumption)).mono ?_);rintro e wB ⟨bB,rfl,hbB,hoB⟩;go_split_ands;have VN:=Below.trans (B:=w3.heap.size) (a:=w3) (by assumption) (hbB.mono (Below.size (by assumption))))
       | (go_at_call 44;(first | (with_reducible refine(HEQ.out _ _ _ (hoA.below hbB hoA.lt) hoB).mono ?_) | (with_reducible refine(HEQ.out _ _ _ hoA (hoB.below hbA hoB.lt)).mono ?_));rintro e wC ⟨rfl,hbC⟩;have hbC2:=Below.trans (B:=w3.heap.size) (a:=w3) (by first | exact VN | exact QM) (hbC.mono (Below.size (by first | exact VN | exact QM)))))
     all_goals
      go_wp2_with fail
      go_meet
      exact⟨rfl,hbC2⟩
    case rest=>
     obtain⟨rfl,hB7⟩:=hcut
     obtain⟨w7,hw7⟩:∃X:World,X=wc:=⟨_,rfl⟩
     subst hw7
     have HB47:=Lib.hid (HB43.out.trans (hB7.mono HB43.out.size))
     have HSB7:=Lib.hid ((hB7.block st (qw HSB.out)).trans HSB.out)
     have uS:=Lib.hid (ownsRow_below yU.out hB7)
     clear hB7
     have HTYP:=Lib.hid (show ∀r∈N,(Lit.int .i64 r.typ).wf=true from fun r hr=>(HNIN.out r hr).2.1.2.1)
     cases pb
     ·obtain⟨ser,hser⟩:∃s,s=up.serL qf L:=⟨_,rfl⟩
      have HOUT:=Lib.hid (show up.Yf qf L au=N.map (up.jG ser) by
       rw[HNN.out,hser]
       refine up.out_other ?_
       rw[← HNN.out]
       exact fun hh=>(of_decide_eq_false HPB.out.symm) hh.symm)
      have HSER:=Lib.hid (show ∀X,Below w4.heap.size w4 X→Calls Tryz.prog 22 #[.pointer (some ⟨z,0,none⟩)] X fun e w'=>e= .returned (.int .i64 ser)∧Below X.heap.size X w' from fun X hX=>by
       obtain⟨r0,rest,hrow0,hd0⟩:=Xp HVA.out
       have he:ser=zn.xL r0.data:=by rw[hser];unfold up.serL;rw[hrow0]
       rw[he]
       exact JY top z qf L r0 rest hrow0 hd0 X (HZ.out.kept (Uw.out.trans (hX.mono Uw.out.size))).v)
      have s1:w7.cell? ⟨st,1,none⟩=some (.slice va N.length vc):=by rw[qg HSB7.out];rfl
      have hT0:JR w4 w7 w4.heap.size st va vc qf (up.jG ser) N 0:=⟨HSB7.out,by simpa using uS.out,HB47.out⟩
      have HT0:=Lib.hid hT0
      have hNb:=HNLEN.out
      clear hser hT0
      go_wp2_with fail
      clear s1
      go_loopw [68] (fun kv wr=>∃k:Nat,k≤N.length∧kv= .int .i64 (k:Int)∧Hid (JR w4 wr w4.heap.size st va vc qf (up.jG ser) N k)) (fun kv _=>N.length-(intOf kv).toNat)
      case atStart=>exact⟨0,Nat.zero_le _,rfl,HT0⟩
      case round=>
       obtain⟨k,hk,rfl,HJ⟩:=hrel
       obtain⟨w8,hw8⟩:∃X:World,X=wr:=⟨_,rfl⟩
       subst hw8
       by_cases hlt:k<N.length
       ·obtain⟨g,cg,hv,-,-⟩:=HJ.out.row.form (by omega)
        simp only[Value.slice.injEq,true_and]at hv
        obtain⟨rfl,rfl⟩:=hv
        have hki:(k:Int)<(N.length:Int):=by omega
        have hlen:=up.xW (F:=up.jG ser) (N:=N) k
        have Y6:qy w8 (.slice (some ⟨g,0,none⟩) N.length vc) ((N.take k).map (up.jG ser) ++ N.drop k):=qO (by rw[hlen];exact HJ.out.row)
        obtain⟨hgl,c0,c1,c2,c3,c4⟩:=zo Y6 (j:=k) (by rw[hlen];exact hlt)
        have hat:=up.KM (F:=up.jG ser) hlt (by rw[hlen];exact hlt)
        obtain⟨y,hy⟩:∃y,y=N[k]:=⟨_,rfl⟩
        rw[← hy]at hat
        rw[hat]at c0 c1 c2 c3 c4
        simp only[Nat.zero_add]at c0 c1 c2 c3 c4
        obtain⟨wy,hwy⟩:∃W,W=w8.alloc (.cells (recC y).toArray 51):=⟨_,rfl⟩
        obtain⟨hBy,hsy,hyy⟩:=qM w8 wy y hwy
        obtain⟨by_,hby⟩:∃b,b=w8.heap.size:=⟨_,rfl⟩
        rw[← hby]at hyy
        have QX:=Lib.hid (show by_<wy.heap.size by omega)
        have HTY:=Lib.hid (HJ.out.under HJ.out.below.size hBy)
        have HY:=Lib.hid hy;have HWY:=Lib.hid hwy;have HBY:=Lib.hid hby;have HYY:=Lib.hid hyy;have HLT:=Lib.hid hlt
        have HYI:=Lib.hid (show up.jO y by rw[hy];exact HNIN.out _ (List.getElem_mem hlt))
        obtain⟨y0,y1,y2,y3,y4⟩:=id hyy
        clear hlen Y6 hgl hat hwy hBy hsy hyy hby hy
        go_upto_region 20 with fail
        rw[← HWY.out,← HBY.out]
        clear c0 c1 c2 c3 c4 hki
        go_wp2_with fail
        refine(serial2_any y (fun h6=>⟨(HYI.out.2.2 h6).1,Nat.le_trans (HYI.out.2.2 h6).2 (by decide)⟩) wy).mono ?_
        rintro e w10 ⟨rfl,jo⟩
        have Qc:=Lib.hid (HTY.out.under HTY.out.below.size jo)
        have HX10:=Lib.hid (HYY.out.keep (jo.block by_ QX.out))
        have HL10:=Lib.hid (Nat.lt_of_lt_of_le QX.out jo.size)
        clear jo y0 y1 y2 y3 y4
        obtain⟨y0,y1,y2,y3,y4⟩:=id HX10.out
        by_cases k6:y.typ=6
        ·have d6:(y.typ == 6)=true:=by rw[beq_iff_eq];exact k6
         obtain⟨n,hn,hn2⟩:=up.Xc (HYI.out.2.2 k6).1
         have hs2:up.ser2 y=(n:Int):=by unfold up.ser2;rw[if_pos k6,hn]
         rw[hs2]
         have hn1:(n:Int)<4294967296:=by omega
         have HN:=Lib.hid hn;have HN2:=Lib.hid hn2;have K6:=Lib.hid k6
         clear k6 hn hs2 hn2
         go_wp2_with fail
         refine(HSER.out w10 Qc.out.below).mono ?_
         rintro e w11 ⟨rfl,hB11⟩
         have HT11:=Lib.hid (Qc.out.under Qc.out.below.size hB11)
         have HX11:=Lib.hid (HX10.out.keep (hB11.block by_ HL10.out))
         clear hB11 y0 y1 y2 y3 y4
         by_cases hs:(n:Int)=ser
         ·have d7:((n:Int) == ser)=true:=by rw[beq_iff_eq];exact hs
          obtain⟨m,hm,hm2⟩:=next_nat HN2.out
          have HNB:=Lib.hid (show up.jG ser y= { y with data:=up.Q0 y.data m} by
           unfold up.jG
           rw[if_pos ⟨K6.out,by rw[HN.out];exact hs⟩,HN.out,hm,Int.toNat_natCast])
          have hmax:=max_next n HN2.out
          rw[hm]at hmax
          have CWS:Hid (∀p,Calls Tryz.prog 47 #[.string y.data,.int .u32 (max (IntKind.u32.wrap ((n:Int)+1)) 1)] (gw w11 p) fun e w''=>e= .returned (.string (up.Q0 y.data m))∧∃p',w''=gw w11 p'):=Lib.hid fun p=>by rw[hmax];exact qL (Xh y.data (HYI.out.2.2 K6.out).1 (Nat.le_trans (HYI.out.2.2 K6.out).2 (by decide)) m hm2 _)
          clear hs hm hm2 hmax
          go_upto_region 22 with fail
          clear d6 d7
          obtain⟨z0,z1,z2,z3,z4⟩:=id HX11.out
          have s1:w11.cell? ⟨st,1,none⟩=some (.slice (some ⟨g,0,none⟩) N.length vc):=by rw[qg HT11.out.stb];rfl
          have k4:=qh z4;have k1:=qh s1
          have hki:(k:Int)<(N.length:Int):=by have:=HLT.out;omega
          clear z0 z1 z2 z3 z4 s1
          refine ze (C:=fun X=>∃p,X=gw w11 p) 13 (by kernel_rfl) (by kernel_rfl) (uL w11) ?_
          simp only[List.take_succ_cons,List.take_zero,List.drop_succ_cons,List.drop_zero]
          repeat (with_reducible refine wpQuiet_step (fun K hK=>?_);go_simp;first | (with_reducible refine hK _ ?_;clear hK K) | (apply Exists.intro;refine⟨fun _=>?_,hK _ ?_⟩;(go_at_call 47;with_reducible exact CWS.out _);clear hK K))
          with_reducible refine wpQuiet_nil ?_
          intro U hU
          have hBU:Below w11.heap.size w11 U:=by obtain⟨p,rfl⟩:=hU;exact qp _ _
          have HTU:=Lib.hid (HT11.out.under HT11.out.below.size hBU)
          have HTE:=Lib.hid (HTU.out.store HLT.out HY.out HNB.out)
          clear hU hBU k4 k1
          have q1:U.cell? ⟨g,k*5+4,none⟩=some (.string y.data):=by
           have hrc:qy U (.slice (some ⟨g,0,none⟩) N.length vc) ((N.take k).map (up.jG ser) ++ N.drop k):=qO (by rw[up.xW];exact HTU.out.row)
           obtain⟨_,_,_,_,_,d4⟩:=zo hrc (j:=k) (by rw[up.xW];exact HLT.out)
           rw[up.KM HLT.out (by rw[up.xW];exact HLT.out),← HY.out]at d4
           simpa using d4
          have q2:U.frozen? ⟨g,k*5+4,none⟩=false:=HTU.out.row.frozenAt _
          have hlk:=HLT.out
          go_wp2_with fail
          go_roundw
          case rel=>
           first
            | exact⟨k+1,by omega,by go_num,HTE⟩
            | (repeat apply Exists.intro
               refine And.intro ?_ ?_
               rotate_left
               ·repeat (first | exact rfl | refine And.intro rfl ?_)
               exact⟨k+1,by omega,by go_num,HTE⟩)
          case measure=>simp[intOf];omega
         ·have d7:((n:Int) == ser)=false:=by rw[beq_eq_false_iff_ne];exact hs
          have HNB:=Lib.hid (show up.jG ser y=y by unfold up.jG;exact if_neg (fun hh=>hs (by rw[← HN.out];exact hh.2)))
          clear hs
          have HTE:=Lib.hid (show JR w4 _ w4.heap.size st (some ⟨g,0,none⟩) vc qf (up.jG ser) N (k+1) from⟨HT11.out.stb,by rw[← up.ZG HLT.out HY.out HNB.out];exact HT11.out.row,HT11.out.below⟩)
          have hlk:=HLT.out
          go_wp2_with fail
          go_roundw
          case rel=>
           first
            | exact⟨k+1,by omega,by go_num,HTE⟩
            | (repeat apply Exists.intro
               refine And.intro ?_ ?_
               rotate_left
               ·repeat (first | exact rfl | refine And.intro rfl ?_)
               exact⟨k+1,by omega,by go_num,HTE⟩)
          case measure=>simp[intOf];omega
        ·have d6:(y.typ == 6)=false:=by rw[beq_eq_false_iff_ne];exact k6
         have HNB:=Lib.hid (show up.jG ser y=y by unfold up.jG;exact if_neg (fun hh=>k6 hh.1))
         clear k6
         have HTE:=Lib.hid (show JR w4 _ w4.heap.size st (some ⟨g,0,none⟩) vc qf (up.jG ser) N (k+1) from⟨Qc.out.stb,by rw[← up.ZG HLT.out HY.out HNB.out];exact Qc.out.row,Qc.out.below⟩)
         have hlk:=HLT.out
         go_wp2_with fail
         go_roundw
         case rel=>
          first
           | exact⟨k+1,by omega,by go_num,HTE⟩
           | (repeat apply Exists.intro
              refine And.intro ?_ ?_
              rotate_left
              ·repeat (first | exact rfl | refine And.intro rfl ?_)
              exact⟨k+1,by omega,by go_num,HTE⟩)
         case measure=>simp[intOf];omega
       ·obtain rfl:k=N.length:=by omega
        have HT:=Lib.hid HJ.out
        have HTB:=Lib.hid HJ.out.below
        have HSBX:=Lib.hid (show w8.heap[st]? =some (.cells #[.string qf,.slice va (N.map (up.jG ser)).length vc] 80 (0,0)) by rw[List.length_map];exact HJ.out.stb)
        have HROWX:=Lib.hid (show w8.ownsRow w4.heap.size 51 5 (.slice va (N.map (up.jG ser)).length vc) (N.map (up.jG ser)).length (qG (N.map (up.jG ser))) by
         have h1:=HJ.out.row
         rw[List.take_length,List.drop_length,List.append_nil]at h1
         rw[List.length_map];exact h1)
        have HTYX:=Lib.hid (show ∀r∈N.map (up.jG ser),(Lit.int .i64 r.typ).wf=true from fun r hr=>by
         obtain⟨r0,hr0,rfl⟩:=List.mem_map.1 hr
         have h1:=HTYP.out r0 hr0
         unfold up.jG
         split <;> exact h1)
        obtain⟨N2,hN2⟩:∃N2,N2=N.map (up.jG ser):=⟨_,rfl⟩
        rw[← hN2]at HSBX HROWX HTYX HOUT
        clear hlt hN2
        have s1:w8.cell? ⟨st,1,none⟩=some (.slice va N2.length vc):=by rw[qg HSBX.out];rfl
        have Kn:=Lib.hid (show ∀X:World,Below w8.heap.size w8 X→Below w8.heap.size w8 X∧X.cell? ⟨st,1,none⟩=some (.slice va N2.length vc) from fun X hX=>⟨hX,(hX.cell (p:=⟨st,1,none⟩) (qw HSBX.out)).trans s1⟩)
        have HAPX:=Lib.hid (show ∀X,Below w8.heap.size w8 X→Calls Tryz.prog 16 #[.pointer (some ⟨z,0,none⟩)] X fun e w'=>e= .returned (.string qf)∧w'=X from fun X hX=>by
         obtain⟨base0,rg0,cap0,sb0,tb0,l0,-,hza,-⟩:=(HZ.out.kept (Uw.out.trans ((HTB.out.trans (hX.mono HTB.out.size)).mono Uw.out.size))).v.parts
         exact ve z qf _ _ _ _ hza)
        have HNEW:=Lib.hid (show ∀X,Below w8.heap.size w8 X→Calls Tryz.prog 17 #[.string qf,.slice va N2.length vc] X fun e w'=>∃p k c,e= .returned (.tuple #[p,.int .i64 k,.int .i64 c])∧NewAns qf N2 p k c w'∧Below X.heap.size X w' from fun X hX=>new_ans qf N2 HTYX.out _ (ZH HROWX.out) X (qO (ownsRow_below HROWX.out hX)))
        go_upto_region 24 with fail
        clear s1
        go_cut [14,15,16] (fun a b c wx=>∃k c',b= .int .i64 k∧c= .int .i64 c'∧NewAns qf N2 a k c' wx∧Below w8.heap.size w8 wx)
        case first=>
         go_region_held3 (fun X=>Below w8.heap.size w8 X∧X.cell? ⟨st,1,none⟩=some (.slice va N2.length vc))
          (first | assumption | exact Kn.out _ (Below.refl _ _).drew | (go_split_ands;exact Kn.out _ (by assumption)))
          (first
           | (go_at_call 16;(with_reducible refine(HAPX.out _ (by go_split_ands;assumption)).mono ?_);rintro e wA ⟨rfl,hEA⟩;subst hEA)
           | (go_at_call 17;(with_reducible refine(HNEW.out _ (by go_split_ands;assumption)).mono ?_);rintro e wD ⟨pD,kD,cD,rfl,hnD,hbD⟩;go_split_ands;have hbD2:=Below.trans (B:=w8.heap.size) (a:=w8) (by assumption) (hbD.mono (Below.size (by assumption)))))
         all_goals
          go_wp2_with fail
          go_meet
          exact⟨_,_,rfl,rfl,hnD,hbD2⟩
        case rest=>
         obtain⟨k9,c9,rfl,rfl,hn9,hB9⟩:=hcut
         obtain⟨w9,hw9⟩:∃X:World,X=wc:=⟨_,rfl⟩
         subst hw9
         have HB9:=Lib.hid (Uw.out.trans ((HTB.out.trans (hB9.mono HTB.out.size)).mono Uw.out.size))
         clear hB9
         rcases hn9 with⟨hne,rfl,rfl,top',z',L',hs',rfl,hzf⟩|⟨hne,hc9,rfl⟩
         ·have HS:=Lib.hid hs';have HZF:=Lib.hid hzf;have HNE:=Lib.hid hne
          clear hs' hzf hne
          go_wp2_with fail
          go_ret2
          exact⟨HB9.out,.inr (.inr ⟨HC0.out,by rw[HOUT.out];exact HNE.out,_,z',L',by rw[HOUT.out];exact HS.out,rfl,HZF.out⟩)⟩
         ·have hcc:(c9 != 0)=true:=by rw[bne_iff_ne];exact hc9
          have HNE:=Lib.hid hne
          clear hne hc9
          go_wp2_with fail
          go_ret2
          exact⟨HB9.out,.inr (.inl ⟨HC0.out,by rw[HOUT.out];exact HNE.out,rfl⟩)⟩
     ·have HOUT:=Lib.hid (show up.Yf qf L au=N by
       rw[HNN.out]
       refine up.out_same ?_
       rw[← HNN.out]
       exact(of_decide_eq_true HPB.out.symm).symm)
      have s1:w7.cell? ⟨st,1,none⟩=some (.slice va N.length vc):=by rw[qg HSB7.out];rfl
      have Kn:=Lib.hid (show ∀X:World,Below w7.heap.size w7 X→Below w7.heap.size w7 X∧X.cell? ⟨st,1,none⟩=some (.slice va N.length vc) from fun X hX=>⟨hX,(hX.cell (p:=⟨st,1,none⟩) (qw HSB7.out)).trans s1⟩)
      have HAPX:=Lib.hid (show ∀X,Below w7.heap.size w7 X→Calls Tryz.prog 16 #[.pointer (some ⟨z,0,none⟩)] X fun e w'=>e= .returned (.string qf)∧w'=X from fun X hX=>by
       obtain⟨base0,rg0,cap0,sb0,tb0,l0,-,hza,-⟩:=(HZ.out.kept (Uw.out.trans ((HB47.out.trans (hX.mono HB47.out.size)).mono Uw.out.size))).v.parts
       exact ve z qf _ _ _ _ hza)
      have HNEW:=Lib.hid (show ∀X,Below w7.heap.size w7 X→Calls Tryz.prog 17 #[.string qf,.slice va N.length vc] X fun e w'=>∃p k c,e= .returned (.tuple #[p,.int .i64 k,.int .i64 c])∧NewAns qf N p k c w'∧Below X.heap.size X w' from fun X hX=>new_ans qf N HTYP.out _ (ZH uS.out) X (qO (ownsRow_below uS.out hX)))
      go_upto_region 24 with fail
      clear s1
      go_cut [14,15,16] (fun a b c wx=>∃k c',b= .int .i64 k∧c= .int .i64 c'∧NewAns qf N a k c' wx∧Below w7.heap.size w7 wx)
      case first=>
       go_region_held3 (fun X=>Below w7.heap.size w7 X∧X.cell? ⟨st,1,none⟩=some (.slice va N.length vc))
        (first | assumption | exact Kn.out _ (Below.refl _ _).drew | (go_split_ands;exact Kn.out _ (by assumption)))
        (first
         | (go_at_call 16;(with_reducible refine(HAPX.out _ (by go_split_ands;assumption)).mono ?_);rintro e wA ⟨rfl,hEA⟩;subst hEA)
         | (go_at_call 17;(with_reducible refine(HNEW.out _ (by go_split_ands;assumption)).mono ?_);rintro e wD ⟨pD,kD,cD,rfl,hnD,hbD⟩;go_split_ands;have hbD2:=Below.trans (B:=w7.heap.size) (a:=w7) (by assumption) (hbD.mono (Below.size (by assumption)))))
       all_goals
        go_wp2_with fail
        go_meet
        exact⟨_,_,rfl,rfl,hnD,hbD2⟩
      case rest=>
       obtain⟨k9,c9,rfl,rfl,hn9,hB9⟩:=hcut
       obtain⟨w9,hw9⟩:∃X:World,X=wc:=⟨_,rfl⟩
       subst hw9
       have HB9:=Lib.hid (Uw.out.trans ((HB47.out.trans (hB9.mono HB47.out.size)).mono Uw.out.size))
       clear hB9
       rcases hn9 with⟨hne,rfl,rfl,top',z',L',hs',rfl,hzf⟩|⟨hne,hc9,rfl⟩
       ·have HS:=Lib.hid hs';have HZF:=Lib.hid hzf;have HNE:=Lib.hid hne
        clear hs' hzf hne
        go_wp2_with fail
        go_ret2
        exact⟨HB9.out,.inr (.inr ⟨HC0.out,by rw[HOUT.out];exact HNE.out,_,z',L',by rw[HOUT.out];exact HS.out,rfl,HZF.out⟩)⟩
       ·have hcc:(c9 != 0)=true:=by rw[bne_iff_ne];exact hc9
        have HNE:=Lib.hid hne
        clear hne hc9
        go_wp2_with fail
        go_ret2
        exact⟨HB9.out,.inr (.inl ⟨HC0.out,by rw[HOUT.out];exact HNE.out,rfl⟩)⟩
 ·have d0:(cs != 0)=true:=by rw[bne_iff_ne];exact hc0
  have HNC:=Lib.hid hc0
  clear hc0
  go_wp2_with fail
  go_ret2
  exact⟨HB2.out,.inl ⟨by rw[← HCS.out];exact HNC.out,by rw[← HCS.out];rfl⟩⟩
end Go.Proofs.YtdjjemajfphjaaaGreat
