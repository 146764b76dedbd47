import Derived.Test.YtpcmilhjpmlbpaaGreatDoorQRefY
set_option maxRecDepth 100000
set_option maxHeartbeats 4000000
namespace Go.Proofs.YtpcmilhjpmlbpaaGreatDoor
open Go.RowKit Go.Shelf Go.WideMaps nm od
namespace zn
end zn
theorem KX (a b:List Rec):qw (a ++ b)=qw a ++ qw b:=by unfold qw;rw[List.flatMap_append]
namespace dt
theorem num_four (d:ByteArray):jU (.num 4) d=if d.size<4 then -1 else 4:=by
 show xU 4 d=_;unfold xU;by_cases h:d.size<4
 ·rw[if_pos h,if_pos (by omega)]
 ·rw[if_neg h,if_neg (by omega)]
theorem V8 {f:Fld}{fs:List Fld}{d:ByteArray}{acc ps:List ByteArray}{r:ByteArray}(h:zw (f :: fs) d acc=some (ps,r)):
 0<=jU f d/\∃acc',zw fs (d.extract (jU f d).toNat d.size) acc'=some (ps,r):=by
 rw[zw]at h
 split at h
 ·cases h
 ·exact⟨by omega,_,h⟩
theorem splitF_le {f:Fld}{fs:List Fld}{d:ByteArray}{acc ps:List ByteArray}{r:ByteArray}(h:zw (f :: fs) d acc=some (ps,r)):
 ∃d' acc',d'.size<=d.size/\zw fs d' acc'=some (ps,r):=by
 obtain⟨h0,acc',h1⟩:=V8 h;exact⟨_,acc',by rw[Hq];omega,h1⟩
theorem jK {fs:List Fld}{d:ByteArray}{acc ps:List ByteArray}{r:ByteArray}(h:zw (.num 4 :: fs) d acc=some (ps,r)):
 ∃d' acc',d'.size+4=d.size/\zw fs d' acc'=some (ps,r):=by
 obtain⟨h0,acc',h1⟩:=V8 h;rw[num_four]at h0 h1
 split at h0
 ·omega
 ·rename_i hs
  rw[if_neg hs]at h1;exact⟨_,acc',by rw[Hq];omega,h1⟩
theorem Q8 {d:ByteArray}(h:jh 6 d=0):20<=d.size/\d.size<=65535:=by
 unfold jh at h
 split at h
 ·split at h
  ·cases h
  ·rename_i hs
   split at h
   ·rename_i hf
    refine⟨?_,by omega⟩;unfold fits at hf;have e:uo 6=some [.host,.host,.num 4,.num 4,.num 4,.num 4,.num 4]:=rfl;rw[e]at hf;simp only at hf
    split at hf
    ·rename_i ps r hsp
     obtain⟨d1,a1,s1,h1⟩:=splitF_le hsp;obtain⟨d2,a2,s2,h2⟩:=splitF_le h1;obtain⟨d3,a3,s3,h3⟩:=jK h2;obtain⟨d4,a4,s4,h4⟩:=jK h3;obtain⟨d5,a5,s5,h5⟩:=jK h4;obtain⟨d6,a6,s6,h6⟩:=jK h5;obtain⟨d7,a7,s7,h7⟩:=jK h6;omega
    ·cases hf
   ·cases h
 ·cases h
end dt
namespace zn
def ZB (d:ByteArray):Int:=(dt.jO (d.extract (d.size-20) (d.size-16)) 4:Nat)
end zn
theorem serial_any (top z:Nat)(qf:ByteArray)(L:List Rec)(r0:Rec)(rest:List Rec)(hrow:zn.qJ L (qy qf,6)=r0 :: rest)(hd:20<=r0.data.size/\r0.data.size<=65535)(w:World)(hz:QL w top z qf L):
 Calls Tryz.prog 61 #[.pointer (some ⟨z,0,none⟩)] w λe w'=>e= .returned (.int .i64 (zn.ZB r0.data))/\Below w.heap.size w w':=by
 obtain⟨base,rg,cap0,sb,tb,l0,h1,h2,h3,h4,h5⟩:=hz.parts;have z0:w.cell? ⟨z,0,none⟩=some (.string qf):=by rw[qg h2];rfl
 have z2:w.cell? ⟨z,2,none⟩=some (.map (some sb)):=by rw[qg h2];rfl
 obtain⟨v,hv,hown⟩:=Yi h4 (λκ hκ=>rowsS_perm h1 hκ) (κ:=(qy qf,6)) ⟨YV _,rfl⟩;rw[hrow]at hown;obtain⟨g,cap,rfl,hbg,hgl⟩:=hown.form (by simp);have hcell:w.cell? ⟨g,4,none⟩=some (.string r0.data):=by
  have:=hown.cells (g:=g) rfl 4 (.string r0.data) (by simp[qw])
  simpa[Addr.add] using this
 have hlen:(zn.qJ L (qy qf,6)).length=(r0 :: rest).length:=by rw[hrow]
 obtain⟨n,hn⟩:=yM ((r0 :: rest).length);rw[<- hn]at hv;have hn1:0<n:=by rw[hn];simp
 have e0:=qh z0;have e2:=qh z2;have e4:=qh hcell;have el:∀p,(Instr.lookup 114 (.map (some sb)) (Xy (qy qf,6)) false).run Tryz.prog (gw w p)= .ok (.slice (some ⟨g,0,none⟩) n cap) (gw w p):=λp=>hv _ (qD w p);obtain⟨d,hdd⟩:=yM r0.data;rw[<- hdd]at hd e4 ⊢;obtain⟨hd1,hd2⟩:=hd;clear h1 h2 h3 h4 h5 hz hv hown hcell z0 z2 hrow hlen hn hbg hdd
 go_enter Tryz.func61,Tryz.ntmps61
 go_wp2_with fail;refine qp (by kernel_rfl) (by kernel_rfl) ?_
 repeat (with_reducible refine Hu (λK hK=>?_);go_simp;first | (with_reducible refine hK _ ?_;clear hK K) | (apply gW;refine⟨λ_=>?_,hK _ ?_⟩;(first | (go_at_call 101;exact qY (kU _ _)));clear hK K))
 with_reducible refine Hw ?_
 intro W hW;have hBW:Below w.heap.size w W:=by obtain⟨p,rfl⟩:=hW;exact qD _ p
 clear hW e0 e2 e4 el;have hsw:=hBW.size;obtain⟨x,hx⟩:=yM (d.extract (d.size-20) (d.size-16):ByteArray);have hxs:x.size=4:=by rw[hx,Hq];omega
 obtain⟨w1,cap2,hcv,hsz,hB,hc⟩:=Kc (P:=Tryz.prog) W 9 122 5 x Tryz.underlying9 Tryz.underlying122 Tryz.underlying5;rw[hx]at hcv;have hr:zn.ZB d=(dt.jO x 4:Nat):=by unfold zn.ZB;rw[<- hx]
 rw[hxs]at hc;have hxe:(d.extract (d.size-20) (d.size-16)).size=4:=by rw[<- hx];exact hxs
 rw[hxe]at hcv;have HR:=qe hr;have HB:=qe (hBW.trans (hB.mono hsw));have HC:=qe hc;have HXS:=qe hxs;clear hr hB hc hBW hx hxs hxe;go_wp2_with fail;clear hcv hsz hsw hgl hn1
 go_loopw [31,4,6] (λkv vv _ wr=>∃k:Nat,k<=4/\kv= .int .i64 (k:Int)/\vv= .int .i64 (dt.jO x k:Nat)/\wr=w1) (λkv _ _ _=>4-(intOf kv).toNat)
 case atStart=>exact⟨0,by omega,rfl,rfl,rfl⟩
 case round=>
  obtain⟨k,hk,rfl,rfl,rfl⟩:=hrel;by_cases hlt:k<4
  ·have c0:=(HC.out k hlt).1;obtain⟨b,hb⟩:=yM (uR x k);have hv:dt.jO x k<256 ^ 4:=gN (dt.Um x k) (Nat.pow_le_pow_right (by omega) (by omega));have hv2:dt.jO x k<1099511627776:=gN hv (by decide);have hv3:(dt.jO x k:Int)<1099511627776:=by omega
   rw[<- hb]at c0;have Xz:(b.toNat:Int)<256:=by have:=UInt8.toNat_lt b;omega
   have hor:=or_byte (dt.jO x k) b.toNat hv2 (UInt8.toNat_lt _);have hnx:(((dt.jO x k*256+b.toNat:Nat)):Int)=(dt.jO x (k+1):Nat):=by rw[hb];rfl
   rw[hnx]at hor;have HOR:=qe hor;have HV2:=qe hv2;have hlt':(k:Int)<4:=by omega
   have HLT:=qe hlt;clear hor hnx hv hb hv2 hk hlt;go_wp2_with fail
   go_roundw
   case rel=>exact⟨k+1,by omega,by go_num,by rw[HOR.out],trivial⟩
   case measure=>simp[intOf];omega
  ·obtain rfl:k=4:=by omega
   go_wp2_with fail;go_ret;exact⟨by rw[HR.out];rfl,HB.out⟩
theorem Jm {α:Type}(r s:Rec)(A B:α):(if r.owner.toList=s.owner.toList then(if r.typ=s.typ then(if r.cls=s.cls then(if r.ttl=s.ttl then(if r.data.toList=s.data.toList then A else B) else B) else B) else B) else B)=if r=s then A else B:=by
 obtain⟨a1,a2,a3,a4,a5⟩:=r;obtain⟨b1,b2,b3,b4,b5⟩:=s;have e:∀a b:ByteArray,a.toList=b.toList↔a=b:=λa b=>by rw[<- str_eq,Hz]
 simp only[e,Rec.mk.injEq];by_cases h1:a1=b1 <;> by_cases h2:a2=b2 <;> by_cases h3:a3=b3 <;> by_cases h4:a4=b4 <;> by_cases h5:a5=b5 <;> simp[h1,h2,h3,h4,h5]
theorem Ur {x y:List Rec}{k:Nat}(hx:k<x.length)(hy:k<y.length)(h:x.take k=y.take k)(e:x[k]=y[k]):x.take (k+1)=y.take (k+1):=by
 rw[gV hx,gV hy,h,e]
theorem Qk (x y:List Rec)(hx:x.length<=1000000000000)(v u:Value)(w:World)(hv:ql w v x)(hu:ql w u y):
 Calls Tryz.prog 22 #[v,u] w λe w'=>e= .returned (.bool (decide (x=y)))/\Below w.heap.size w w':=by
 obtain⟨a,cap,rfl,-⟩:=id hv;obtain⟨a2,cap2,rfl,-⟩:=id hu;have HV:=qe hv;have HU:=qe hu;clear hv hu;by_cases hl:x.length=y.length
 ·obtain⟨m,hm⟩:=yM y.length;have HM:=qe hm;rw[hl,<- hm]at hx ⊢;have HL:=qe (hl.trans hm.symm);clear hl hm
  go_enter Tryz.func22,Tryz.ntmps22
  go_wp2_with fail
  go_loopw [13,5] (λkv _ wr=>∃k:Nat,k<=m/\kv= .int .i64 (k:Int)/\x.take k=y.take k/\Below w.heap.size w wr) (λkv _ _=>m-(intOf kv).toNat)
  case atStart=>exact⟨0,gU _,rfl,rfl,gJ _ _⟩
  case round=>
   obtain⟨k,hk,rfl,hxy,hB⟩:=hrel;have HB:=qe hB;have HXY:=qe hxy;clear hxy;by_cases hkm:k<m
   ·obtain⟨a',cap',hv,_,hr⟩:=ql.below HV.out hB;simp only[gL]at hv;obtain⟨rfl,_,rfl⟩:=hv;obtain⟨b,off,rfl,hbl,c0,c1,c2,c3,c4⟩:=hr k (by rw[HL.out];exact hkm);obtain⟨a',cap',hv,_,hr2⟩:=ql.below HU.out hB;simp only[gL]at hv;obtain⟨rfl,_,rfl⟩:=hv;obtain⟨b2,off2,rfl,hbl2,d0,d1,d2,d3,d4⟩:=hr2 k (by rw[<- HM.out];exact hkm);clear hr hr2 hB;go_upto_region 6 with fail;refine qp (by kernel_rfl) (by kernel_rfl) ?_;have e0:=qh c0;have e1:=qh c1;have e2:=qh c2;have e3:=qh c3;have e4:=qh c4;have f0:=qh d0;have f1:=qh d1;have f2:=qh d2;have f3:=qh d3;have f4:=qh d4
    repeat (with_reducible refine Hu (λK hK=>?_);go_simp;first | (with_reducible refine hK _ ?_;clear hK K))
    have hx2:k<x.length:=by rw[HL.out];exact hkm
    have hy2:k<y.length:=by rw[<- HM.out];exact hkm
    with_reducible refine Hu (λK hK=>?_)
    go_simp
    refine⟨.bool (!decide (x[k]=y[k])),λ_=>?_,hK _ ?_⟩
    ·rw[Jm];by_cases h:x[k]=y[k]
     ·rw[if_pos h,gF h];exact⟨rfl,rfl⟩
     ·rw[if_neg h,gp h];exact⟨rfl,rfl⟩
    clear hK K
    with_reducible refine Hw ?_
    intro W hW;have hBW:Below wr.heap.size wr W:=by obtain⟨p,rfl⟩:=hW;exact qD _ p
    have HBW:=qe (gm HB.out hBW);clear hW hBW e0 e1 e2 e3 e4 f0 f1 f2 f3 f4 c0 c1 c2 c3 c4 d0 d1 d2 d3 d4;by_cases he:x[k]=y[k]
    ·rw[gF he];have hnx:=Ur hx2 hy2 HXY.out he;have HNX:=qe hnx;clear hnx he;go_wp2_with fail
     go_roundw
     case rel=>exact⟨k+1,by omega,by go_num,HNX.out,HBW.out⟩
     case measure=>simp[intOf];omega
    ·rw[gp he];have hno:decide (x=y)=false:=gp λh=>he (by subst h;rfl);have HNO:=qe hno;clear hno he;go_wp2_with fail;go_ret;exact⟨qI HNO.out.symm,HBW.out⟩
   ·obtain rfl:k=m:=by omega
    have hyes:decide (x=y)=true:=gF (by
     have h:=HXY.out;rw[List.take_of_length_le (by rw[HL.out];exact gI _),List.take_of_length_le (by rw[<- HM.out];exact gI _)]at h;exact h)
    have HY:=qe hyes;clear hyes hkm hB;go_wp2_with fail;go_ret;exact⟨qI HY.out.symm,HB.out⟩
 ·have hno:decide (x=y)=false:=gp λh=>hl (by rw[h]);have hl':((x.length:Int) != (y.length:Int))=true:=by rw[bne_iff_ne];omega
  have HNO:=qe hno;clear hno hl
  go_enter Tryz.func22,Tryz.ntmps22
  go_wp2_with fail;go_ret;exact⟨qI HNO.out.symm,gJ _ _⟩
namespace zn
end zn
theorem UJ {qf:ByteArray}{l:List Rec}{w w':World}{e:Ending}(h:ZI qf l w e w')(hn:zn.yG qf l=none):
 Below w.heap.size w w'/\∃z L,w.heap.size<=z/\zL l L/\e= .returned (.tuple #[.pointer (some ⟨z,0,none⟩),.int .i64 0,.int .i64 0])/\jB w' w'.heap.size z qf L:=by
 unfold ZI at h;rw[hn]at h;obtain⟨hB,z,L,hz,hs,he,hv⟩:=h;have hva:=zn.Z9 hn;exact⟨hB,z,L,hz,hs,he,hv,by rw[hs.1.length_eq];exact hva.small,λr hr=>(hva.each r (hs.1.mem_iff.1 hr)).1,hs.2⟩
theorem newPost_bad {qf:ByteArray}{l:List Rec}{w w':World}{e:Ending}{k c:Int}(h:ZI qf l w e w')(hn:zn.yG qf l=some (k,c)):
 Below w.heap.size w w'/\e= .returned (.tuple #[.pointer none,.int .i64 k,.int .i64 c]):=by
 unfold ZI at h;rw[hn]at h;exact h
theorem jB.z {w:World}{top z:Nat}{qf:ByteArray}{L:List Rec}(h:jB w top z qf L):QL w top z qf L:=h.v
end Go.Proofs.YtpcmilhjpmlbpaaGreatDoor
namespace Go.Proofs.YtpcmilhjpmlbpaaGreatDoor
open Go.RowKit Go.Shelf nm od
namespace zn
theorem rows_filter {L:List Rec}(hn:jN L)(n:ByteArray)(t:Int):L.filter (λr=>decide (r.typ=t) && qG r.owner n)=qJ L (qy n,t):=by
 unfold qJ;apply List.filter_congr;intro r hr
 cases hc:qo n
 ·have h1:qG r.owner n=false:=by unfold qG;rw[hc];simp
  have h2:qy n=ByteArray.empty:=fold_none hc;rw[h1,Bool.and_false]
  symm
  rw[decide_eq_false_iff_not];unfold yh;simp only[Prod.mk.injEq];rintro⟨e,_⟩;obtain⟨x,hx⟩:=yO (hn r hr);have h3:=vL hx;rw[e,h2]at h3;have:=Qy h3;rw[empty_check]at this
  cases this
 ·unfold yh;rw[Bool.eq_iff_iff];simp only[gX,H7,Prod.mk.injEq];rw[zP (hn r hr) hc];exact And.comm
theorem JE {α:Type}{L:List α}{k:Nat}(h:k<L.length)(p:α->Bool):(L.take (k+1)).filter p=if p L[k]=true then(L.take k).filter p ++ [L[k]] else(L.take k).filter p:=by
 rw[gV h,List.filter_append];by_cases hp:p L[k]=true
 ·rw[if_pos hp,List.filter_cons,if_pos hp];rfl
 ·rw[if_neg hp,List.filter_cons,if_neg hp];simp
theorem filter_take_le {α:Type}(L:List α)(k:Nat)(p:α->Bool):((L.take k).filter p).length<=L.length:=gQ (List.length_filter_le _ _) (by rw[List.length_take];omega)
end zn
theorem uU {w w':World}{z:Nat}{qf:ByteArray}{L:List Rec}{g cap:Nat}(hz:w.heap[z]? =some (.cells #[.string qf,.slice (some ⟨g,0,none⟩) L.length cap] 58 (0,0)))(hr:ql w (.slice (some ⟨g,0,none⟩) L.length cap) L)(hB:Below w.heap.size w w'):
 w'.cell? ⟨z,0,none⟩=some (.string qf)/\w'.cell? ⟨z,1,none⟩=some (.slice (some ⟨g,0,none⟩) L.length cap)/\(∀k (hk:k<L.length),Zk w' g (k*5) L[k])/\L.length<=cap:=by
 have h1:=(hB.block z (qA hz)).trans hz;refine⟨by rw[qg h1];rfl,by rw[qg h1];rfl,λk hk=>?_,?_⟩
 ·have:=(qH (hr.below hB) hk).2;rw[Nat.zero_add]at this;exact this
 ·obtain⟨a,c,hv,hc,_⟩:=hr;simp only[gL]at hv;omega
theorem rset_any (z:Nat)(qf:ByteArray)(L:List Rec)(hL:L.length<=2000)(hnm:zn.jN L)(n:ByteArray)(hn:n.size<=1099511627776)(t:Int)(w:World)(hz:uQ w z qf L):
 Calls Tryz.prog 87 #[.pointer (some ⟨z,0,none⟩),.string n,.int .i64 t] w λe w'=>jk (zn.qJ L (qy n,t)) w e w':=by
 obtain⟨g,cap,hzc,hrec⟩:=hz;have hall:=zn.rows_filter hnm n t;obtain⟨p,hp⟩:∃p:Rec->Bool,p=λr=>decide (r.typ=t) && qG r.owner n:=⟨_,rfl⟩;rw[<- hp]at hall;have hsz:∀k (hk:k<L.length),L[k].owner.size<=1099511627776:=λk hk=>by have:=qV (hnm _ (Ht hk));omega
 have HC:=qe (λW (hB:Below w.heap.size w W)=>uU hzc hrec hB);obtain⟨q0,q1,_,hcap⟩:=uU hzc hrec (gJ _ _);obtain⟨Jz,JB,Km,Qq,QI⟩:=info_parts kT;have Ve:=qe JB;have Vd:=qe Km;have ZK:=qe Qq;have ZJ:=qe QI;clear JB Km Qq QI;have HZC:=qe hzc;have HREC:=qe hrec;have zk:=qe hall;have HP:=qe hp;have HSZ:=qe hsz;have HNM:=qe hnm;clear hzc hrec hall hp hsz hnm
 go_enter Tryz.func87,Tryz.ntmps87
 go_wp2_with fail;clear q0 q1
 go_loopw [15,7,9] (λkv v _ wr=>∃k:Nat,k<=L.length/\kv= .int .i64 (k:Int)/\wr.ownsRow w.heap.size 80 5 v ((L.take k).filter p).length (qw ((L.take k).filter p))/\Below w.heap.size w wr) (λkv _ _ _=>L.length-(intOf kv).toNat)
 case atStart=>exact⟨0,gU _,rfl,gZ _ _ _ _,gJ _ _⟩
 case round=>
  obtain⟨k,hk,rfl,hown,hB⟩:=hrel;obtain⟨a,c,rfl,_⟩:=qj hown;have hsr:=hB.size;have hln:=zn.filter_take_le L k p;have HOWN:=qe hown;have HB:=qe hB;clear hown hB;by_cases hlt:k<L.length
  ·obtain⟨c0,c1,c2,c3,c4⟩:=(HC.out wr HB.out).2.2.1 k hlt;have hki:(k:Int)<(L.length:Int):=by omega
   obtain⟨hBA0,_,hx⟩:=zf wr _ L[k] rfl;have HBA:=qe (HB.out.trans (hBA0.mono hsr));have HROWA:=qe (ownsRow_below HOWN.out hBA0);have hso:=HSZ.out k hlt;have hnx:=zn.JE hlt p;obtain⟨wa,hwa⟩:=yM (wr.alloc (.cells (recC L[k]).toArray 80));rw[<- hwa]at HBA HROWA hx;have hsa:=HBA.out.size;have ltb:wr.heap.size<wa.heap.size:=by rw[hwa];simp
   clear hBA0;obtain⟨x0,x1,x2,x3,x4⟩:=id hx;by_cases ht:L[k].typ=t
   ·have bt:(L[k].typ == t)=true:=by rw[Hz];exact ht
    cases he:qG L[k].owner n
    ·have hpk:p L[k]=false:=by rw[HP.out];simp[he]
     rw[hpk,if_neg (by simp)]at hnx;have HT:=qe ht;have HE:=qe he;have HPK:=qe hpk;have HNX:=qe hnx;have HX:=qe hx;have HWA:=qe hwa;clear ht he hpk hnx hx hwa;go_wp2_with fail;rw[<- HWA.out];refine(zT _ _ hso hn _).mono ?_;rintro e w2 ⟨rfl,hB2⟩;rw[HE.out];have HB2:=qe (gm HBA.out hB2);have Y7:=qe (ownsRow_below HROWA.out hB2);clear hB2;go_wp2_with fail
     go_roundw
     case rel=>exact⟨k+1,by omega,by go_num,by rw[HNX.out];exact Y7.out,HB2.out⟩
     case measure=>simp[intOf];omega
    ·have hpk:p L[k]=true:=by rw[HP.out];simp[he,ht]
     rw[hpk,if_pos rfl]at hnx;have HT:=qe ht;have HE:=qe he;have HPK:=qe hpk;have HNX:=qe hnx;have HX:=qe hx;have HWA:=qe hwa;clear ht he hpk hnx hx hwa;clear c0 c1 c2 c3 c4;obtain⟨c0,c1,c2,c3,c4⟩:=(HC.out wr HB.out).2.2.1 k hlt;go_wp2_with fail;rw[<- HWA.out];refine(zT _ _ hso hn _).mono ?_;rintro e w2 ⟨rfl,hB2⟩;rw[HE.out];obtain⟨y0,y1,y2,y3,y4⟩:=HX.out.keep (hB2.block _ ltb);have HB2:=qe (gm HBA.out hB2);have Y7:=qe (ownsRow_below HROWA.out hB2);clear hB2 x0 x1 x2 x3 x4 c0 c1 c2 c3 c4;obtain⟨F,hF⟩:=yM ((L.take k).filter p);rw[<- hF]at Y7 HNX hln ⊢;have HF:=qe hF;clear hF;have Zq:=qe (HB2.out.alloc HB2.out.size (.cells (recC L[k]).toArray 80));have vH:=qe (qm Y7.out λb hb=>Below.heap_alloc w2 (.cells (recC L[k]).toArray 80) b (Y7.out.lt b hb).2);have Zp:=qe (show F.length+1<=maxLen from by unfold maxLen;omega);have Zm:=qe (show(F.length+1)*56<=140737488355328 from by omega);have vG:=qe (show w.heap.size<=(w2.alloc (.cells (recC L[k]).toArray 80)).heap.size from by have:=HB2.out.size;simp;omega);have uJ:=qe (ve w2 (recC L[k]) 80);go_wp2_with (at_builtin;refine qW _ rfl _ _ 31 rfl w.heap.size 80 Jz (.agg #[.string ⟨#[]⟩,.int .i64 0,.int .i64 0,.int .i64 0,.string ⟨#[]⟩]) 5 56 Tryz.underlying31 Ve.out Vd.out ZK.out ZJ.out rfl (by decide) _ _ _ rfl vH.out ⟨w2.heap.size,0,none⟩ 1 1 (recC L[k]) rfl rfl uJ.out (by simp[Value.oneCell']) Zp.out Zm.out vG.out ?_);intro v' w10 zz jg jM;have yt:=qe (Zq.out.grown jg vG.out (λj hj=>(vH.out.lt j hj).1));have zV:=qe zz;have JS:=qe jg;have QM:=qe jM;clear zz jg jM Zq vH Zp Zm vG uJ;go_wp2_with fail
     go_roundw
     case rel=>
      refine⟨k+1,by omega,by go_num,?_,yt.out⟩;have h:=zV.out;rw[HNX.out,gK,ko];exact h
     case measure=>simp[intOf];omega
   ·have bt:(L[k].typ == t)=false:=by rw[gG];exact ht
    have hpk:p L[k]=false:=by rw[HP.out];simp[ht]
    rw[hpk,if_neg (by simp)]at hnx;have HT:=qe ht;have HPK:=qe hpk;have HNX:=qe hnx;have HX:=qe hx;have HWA:=qe hwa;clear ht hpk hnx hx hwa;go_wp2_with fail
    go_roundw
    case rel=>exact⟨k+1,by omega,by go_num,by rw[HNX.out,<- HWA.out];exact HROWA.out,by rw[<- HWA.out];exact HBA.out⟩
    case measure=>simp[intOf];omega
  ·obtain rfl:k=L.length:=by omega
   have hfin:(L.take L.length).filter p=zn.qJ L (qy n,t):=by rw[List.take_length];exact zk.out
   have Vf:=qe hfin;clear hfin;go_wp2_with fail;go_ret;exact⟨_,rfl,HB.out,by rw[<- Vf.out];exact HOWN.out⟩
namespace zn
end zn
namespace zn
theorem soa_rec {qf:ByteArray}{L:List Rec}(hv:Valid qf L):∃r∈L,r.typ=6/\QC r=false/\qy r.owner=qy qf:=by
 obtain⟨_,h2,h3,_⟩:=vK hv.rules;have h4:∃r∈L,r.typ=6:=Classical.byContradiction λh=>h3 (JZ.2 λr hr h6=>h ⟨r,hr,h6⟩);obtain⟨r,hr,h6⟩:=h4;refine⟨r,hr,h6,?_,(zP (hv.named r hr) hv.ap).1 ((ZA.1 h2).2 r hr h6)⟩;unfold QC;rw[h6];rfl
end zn
open dt (Fld)
namespace dt
abbrev soaF:List Fld:=[.host,.host,.num 4,.num 4,.num 4,.num 4,.num 4]
theorem YM {f:Fld}{fs:List Fld}{d:ByteArray}{acc ps:List ByteArray}{r:ByteArray}(h:zw (f :: fs) d acc=some (ps,r)):
 0<=jU f d/\zw fs (d.extract (jU f d).toNat d.size) (acc ++ [d.extract 0 (jU f d).toNat])=some (ps,r):=by
 rw[zw]at h
 split at h
 ·cases h
 ·exact⟨by omega,h⟩
theorem splitF_pre:∀(fs:List Fld) (d:ByteArray) (acc ps:List ByteArray) (r:ByteArray),zw fs d acc=some (ps,r)->∃t,ps=acc ++ t:=by
 intro fs
 induction fs with
 | nil=>intro d acc ps r h;simp only[zw,gM,Prod.mk.injEq]at h;exact⟨[],by rw[<- h.1];simp⟩
 | cons f fs ih=>
   intro d acc ps r h;obtain⟨_,h2⟩:=YM h;obtain⟨t,ht⟩:=ih _ _ _ _ h2;exact⟨[d.extract 0 (jU f d).toNat] ++ t,by rw[ht,List.append_assoc]⟩
theorem soa_parts {d:ByteArray}{ps:List ByteArray}{r:ByteArray}(h:zw soaF d []=some (ps,r))(hr:r.size=0):ps[2]? =some (d.extract (d.size-20) (d.size-16))/\20<=d.size:=by
 obtain⟨a0,h0⟩:=YM h;have l0:=Jj .host d
 generalize hn0:(jU .host d).toNat=n0 at h0
 obtain⟨a1,h1⟩:=YM h0;have l1:=Jj .host (d.extract n0 d.size)
 generalize hn1:(jU .host (d.extract n0 d.size)).toNat=n1 at h1
 have s1:(d.extract n0 d.size).size=d.size-n0:=by rw[Hq];omega
 generalize hd2:(d.extract n0 d.size).extract n1 (d.extract n0 d.size).size=d2 at h1
 have s2:d2.size=d.size-n0-n1:=by rw[<- hd2,Hq];omega
 obtain⟨a2,h2⟩:=YM h1;rw[num_four]at a2 h2;have f2:¬d2.size<4:=by split at a2 <;> omega
 rw[if_neg f2]at h2;obtain⟨d4,_,s4,h4⟩:=jK h2;obtain⟨d5,_,s5,h5⟩:=jK h4;obtain⟨d6,_,s6,h6⟩:=jK h5;obtain⟨d7,_,s7,h7⟩:=jK h6;simp only[zw,gM,Prod.mk.injEq]at h7;have e7:d7.size=0:=by rw[h7.2];exact hr
 have s3:(d2.extract (4:Int).toNat d2.size).size=d2.size-4:=by rw[Hq];omega
 have hz:d2.size=20:=by omega
 obtain⟨t,ht⟩:=splitF_pre _ _ _ _ _ h2;refine⟨?_,by omega⟩;rw[ht];simp only[List.nil_append,List.cons_append,List.getElem?_cons_succ,List.getElem?_cons_zero,gM];apply YX;rw[<- hd2,zW,zW,zW,zW];have hl:d.data.toList.length=d.size:=ba_len d;have e1:List.take (d.size-n0) (List.drop n0 d.data.toList)=List.drop n0 d.data.toList:=List.take_of_length_le (by rw[He,hl];omega);have e2:List.take ((d.extract n0 d.size).size-n1) (List.drop n1 (List.drop n0 d.data.toList))=List.drop n1 (List.drop n0 d.data.toList):=List.take_of_length_le (by rw[He,He,hl,s1];omega);rw[e1,e2,List.drop_zero,List.drop_drop];have h4':(4:Int).toNat=4:=rfl;rw[h4',show d.size-16-(d.size-20)=4-0 by omega]
 congr 2
 omega
end dt
theorem rserial_any (z:Nat)(qf:ByteArray)(L:List Rec)(hva:zn.Valid qf L)(r0:Rec)(rest:List Rec)(hrow:zn.qJ L (qy qf,6)=r0 :: rest)(w:World)(hz:uQ w z qf L):
 Calls Tryz.prog 57 #[.pointer (some ⟨z,0,none⟩)] w λe w'=>e= .returned (.int .i64 (zn.ZB r0.data))/\Below w.heap.size w w':=by
 have hL:=hva.small;obtain⟨g,cap,hzc,hrec⟩:=hz;have HC:=qe (λW (hB:Below w.heap.size w W)=>uU hzc hrec hB);obtain⟨q0,q1,_,hcap⟩:=uU hzc hrec (gJ _ _);have hform:dt.uo 6=some dt.soaF:=rfl;have hff:=dt.KV hform;have HZC:=qe hzc;have HREC:=qe hrec;have HVA:=qe hva;have jG:=qe hrow;have HFORM:=qe hform;have HFF:=qe hff;clear hzc hrec hva hrow hform hff
 go_enter Tryz.func57,Tryz.ntmps57
 go_wp2_with fail;clear q0 q1
 go_loopw [12,4,5,6] (λkv _ _ _ wr=>∃k:Nat,k<=L.length/\kv= .int .i64 (k:Int)/\(∀j (hj:j<L.length),j<k->L[j].typ≠6)/\Below w.heap.size w wr) (λkv _ _ _ _=>L.length-(intOf kv).toNat)
 case atStart=>exact⟨0,gU _,rfl,(λj hj h=>by omega),gJ _ _⟩
 case round=>
  obtain⟨k,hk,rfl,hno,hB⟩:=hrel;have hsr:=hB.size;have HB:=qe hB;clear hB;by_cases hlt:k<L.length
  ·obtain⟨c0,c1,c2,c3,c4⟩:=(HC.out wr HB.out).2.2.1 k hlt;have hki:(k:Int)<(L.length:Int):=by omega
   obtain⟨hBA0,hza,hx⟩:=zf wr _ L[k] rfl;have HBA:=qe (HB.out.trans (hBA0.mono hsr));obtain⟨wa,hwa⟩:=yM (wr.alloc (.cells (recC L[k]).toArray 80));rw[<- hwa]at HBA hx hza;have ltb:wr.heap.size<wa.heap.size:=by omega
   clear hBA0;obtain⟨x0,x1,x2,x3,x4⟩:=id hx;by_cases h6:L[k].typ=6
   ·have b6:(L[k].typ == 6)=true:=by rw[Hz];exact h6
    have hchk:dt.jh 6 L[k].data=0:=by
     have:=((HVA.out.each _ (Ht hlt)).2.1);unfold zn.jT at this;simp only[Bool.not_eq_false',gX,H7]at this;rw[<- h6];exact this.2
    obtain⟨hd,ps,r,hsp,hr0⟩:=chk_fit HFORM.out hchk;obtain⟨hp2,h20⟩:=dt.soa_parts hsp hr0;have hr0e:r0=L[k]:=by
     have he:qy L[k].owner=qy qf:=(zn.zP (HVA.out.named _ (Ht hlt)) HVA.out.ap).1 ((zn.ZA.1 (zn.vK HVA.out.rules).2.1).2 _ (Ht hlt) h6)
     have:=zn.rows_head (l:=L) (κ:=(qy qf,6)) hlt (by unfold zn.yh;rw[he,h6]) (λi hi h e=>by
      unfold zn.yh at e;simp only[Prod.mk.injEq]at e;exact hno i hi h e.2) r0
     rw[jG.out]at this;exact this
    have hpl:=(dt.YL _ _ _ _ _ hsp).1;have hpl2:ps.length=7:=by simpa using hpl
    have hgood:=dt.Yy HFORM.out;have hparts:=λW=>KS dt.soaF (by decide) hgood.1 L[k].data hd W;have hall:∀X:World,Below wa.heap.size wa X->Below wa.heap.size wa X/\X.cell? ⟨wr.heap.size,4,none⟩=some (.string L[k].data):=λX hX=>⟨hX,(hX.cell (p:=⟨wr.heap.size,4,none⟩) ltb).trans (by simpa using x4)⟩;have hsz:(L[k].data.extract (L[k].data.size-20) (L[k].data.size-16)).size=4:=by rw[Hq];omega
    have hval:zn.ZB r0.data=(dt.jO (L[k].data.extract (L[k].data.size-20) (L[k].data.size-16)) (L[k].data.extract (L[k].data.size-20) (L[k].data.size-16)).size:Nat):=by rw[hsz,hr0e];rfl
    have h2p:2<ps.length:=by omega
    have hget:ps[2]=L[k].data.extract (L[k].data.size-20) (L[k].data.size-16):=by
     rw[List.getElem?_eq_getElem h2p]at hp2;exact Hr hp2
    obtain⟨p2,hp2e⟩:=yM (ps[2]);rw[<- hget,<- hp2e]at hval hsz;have H6:=qe h6;have HCHK:=qe hchk;have HSP:=qe hsp;have HR0:=qe hr0;have HP2:=qe hp2;have HR0E:=qe hr0e;have HPARTS:=qe hparts;have zk:=qe hall;have HVAL:=qe hval;have HGET:=qe hget;have HP2E:=qe hp2e;have HPL:=qe hpl;have HGOOD:=qe hgood;have HX:=qe hx;have HWA:=qe hwa;have HNO:=qe hno;clear h6 hchk hsp hr0 hp2 hr0e hparts hall hval hget hp2e hpl hgood hx hwa hno;clear x0 x2 x3 x4 c0 c1 c2 c3 c4;obtain⟨c0,c1,c2,c3,c4⟩:=(HC.out wr HB.out).2.2.1 k hlt;go_upto_region 5 with fail;rw[<- HWA.out]
    go_cut [5] (λs wx=>∃g cp,s= .slice (some ⟨g,0,none⟩) 7 cp/\7<=cp/\wx.cell? ⟨g,2,none⟩=some (.string p2)/\Below wa.heap.size wa wx)
    case first=>
     clear c0 c1 c2 c3 c4 x1
     go_region_held3 (λX=>Below wa.heap.size wa X/\X.cell? ⟨wr.heap.size,4,none⟩=some (.string L[k].data))
      (first | assumption | exact zk.out _ (gJ _ _).drew | (go_split_ands;exact zk.out _ (by assumption)))
      (first
       | (go_at_call 99;(with_reducible refine(kg _ _).mono ?_);rintro e wF ⟨rfl,rfl⟩;rw[HFF.out])
       | (go_at_call 98;(with_reducible refine(HPARTS.out _).mono ?_);rintro e wA ⟨hpp,hbA⟩;rw[HSP.out]at hpp;obtain⟨vp,rfl,hop⟩:=hpp;go_split_ands;have uY:=Below.trans (B:=wa.heap.size) (a:=wa) (by assumption) (hbA.mono (Below.size (by assumption)))))
     all_goals
      obtain⟨gg,cp,rfl,_,_⟩:=hop.form (by omega);have hc2:=Qb hop 2 (by rw[List.length_map];omega);rw[List.getElem_map,<- HP2E.out]at hc2;obtain⟨_,_,hv',hcp⟩:=qj hop;simp only[gL,true_and]at hv';go_wp2_with fail;go_meet;exact⟨gg,cp,by rw[hpl2],by omega,hc2,uY⟩
    case rest=>
    obtain⟨g5,cp,rfl,hcp,hcell,hBc⟩:=hcut;have HBC:=qe (gm HBA.out hBc);clear hBc c0 c1 c2 c3 c4 x1;go_wp2_with fail;refine(X7 p2 (by omega) _).mono ?_;rintro e w8 ⟨rfl,rfl⟩;go_wp2_with fail;go_ret;exact⟨by rw[HVAL.out,hsz];rfl,HBC.out⟩
   ·have b6:(L[k].typ == 6)=false:=by rw[gG];exact h6
    have yU:∀j (hj:j<L.length),j<k+1->L[j].typ≠6:=λj hj h=>by
     rcases Nat.lt_or_ge j k with h' | h'
     ·exact hno j hj h'
     ·obtain rfl:j=k:=by omega
      exact h6
    have H6:=qe h6;have HNO:=qe hno;have uu:=qe yU;have HX:=qe hx;have HWA:=qe hwa;clear h6 hno yU hx hwa;go_wp2_with fail
    go_roundw
    case rel=>exact⟨k+1,by omega,by go_num,uu.out,by rw[<- HWA.out];exact HBA.out⟩
    case measure=>simp[intOf];omega
  ·exfalso;have hm:r0∈zn.qJ L (qy qf,6):=by rw[jG.out];exact List.mem_cons_self ..
   obtain⟨h1,h2⟩:=zn.kD.1 hm;obtain⟨j,hj,rfl⟩:=List.getElem_of_mem h1;exact hno j hj (by omega) (congrArg Prod.snd h2)
end Go.Proofs.YtpcmilhjpmlbpaaGreatDoor
