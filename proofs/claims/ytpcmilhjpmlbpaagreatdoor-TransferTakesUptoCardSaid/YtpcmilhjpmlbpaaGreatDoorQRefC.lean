import Derived.Test.YtpcmilhjpmlbpaaGreatDoorQRefA
import Derived.Lib.SmallJoins
set_option maxRecDepth 100000
set_option maxHeartbeats 2000000
namespace Go.Proofs.YtpcmilhjpmlbpaaGreatDoor
open Go.RowKit Go.Shelf nm
namespace nm
theorem lbs_get {ls:List (List UInt8)}{k:Nat}(h:k<ls.length):(lbs ls)[k]'(by rw[ji];exact h)=(⟨ls[k].toArray⟩:ByteArray):=by unfold lbs;simp
theorem lowS_lbl (l:List UInt8):kY ⟨l.toArray⟩=⟨(l.map ZO).toArray⟩:=by unfold kY;simp
theorem xw (ls:List (List UInt8)){k:Nat}(h:k<ls.length):lbs ((jH ls).take (k+1))=lbs ((jH ls).take k) ++ [kY ⟨ls[k].toArray⟩]:=by
 have hk:k<(jH ls).length:=by unfold jH;simpa using h
 have e:(jH ls)[k]=ls[k].map ZO:=by
  show(ls.map (·.map ZO))[k]'_=_;exact List.getElem_map ..
 rw[gV hk,lowS_lbl,e];unfold lbs;simp
theorem fold_none' {s:ByteArray}(h:rows s=none):qy s=ByteArray.empty:=by
 unfold qy;rw[jA,h];rfl
theorem QX {s:ByteArray}{ls:List (List UInt8)}(h:rows s=some ls):ls.length<=255/\(zX ls).length<=255/\(∀l∈ls,0<l.length/\l.length<=63):=by
 obtain⟨h1,h2,_⟩:=yc h;have h3:=Yk h;have h4:=ku ls;exact⟨by omega,by omega,h2⟩
end nm
theorem Vx (s:ByteArray)(hs:s.size<=1099511627776)(w:World):Calls Tryz.prog 96 #[.string s] w λe w'=>e= .returned (.string (qy s))/\Below w.heap.size w w':=by
 cases hr:rows s with
 | none=>
   have hf:=fold_none' hr;have HF:=qe hf;have HR:=qe hr;clear hf hr
   go_enter Tryz.func96,Tryz.ntmps96
   go_wp2_with fail;refine(yE s hs _).mono ?_;rintro e w2 ⟨hB,v,rfl,_⟩;have HB:=qe hB;clear hB;rw[HR.out];go_wp2_with fail;go_ret;exact⟨xJ HF.out.symm,HB.out⟩
 | some ls=>
   obtain⟨l1,l2,l3⟩:=QX hr;have hf:qy s=nameOf (jH ls):=vW hr;have hlow:=QY (yc hr).2.1;have hpl:(zX (jH ls)).length<=255:=by rw[QP (yc hr).2.1];exact l2
   have hll:(jH ls).length=ls.length:=by unfold jH;simp
   obtain⟨i0,hi0,hz0,hz1,hz2⟩:=info_parts Jw;have HI:=qe hi0;have HZ:=qe hz0;have HZ1:=qe hz1;have HZ2:=qe hz2;have HF:=qe hf;have HR:=qe hr;have Ja:=qe hlow;have HPL:=qe hpl;have HLL:=qe hll;have HL3:=qe l3;clear hf hr hlow hpl hll l2 l3 hi0 hz0 hz1 hz2
   go_enter Tryz.func96,Tryz.ntmps96
   go_wp2_with fail;refine(yE s hs _).mono ?_;rintro e w2 ⟨hB2,v,rfl,hv⟩;have hrow:=QZ (w:=w2) (ss:=lbs ls) (by rw[ji];exact hv ls HR.out);obtain⟨a,cap,rfl,hc⟩:=hrow;rw[ji];have HB2:=qe hB2;have HC:=qe hc;have hs2:=hB2.size;clear hB2 hv hc;rw[HR.out];go_wp2_with fail
   go_loopw [17,5,7] (λkv ov _ wr=>∃k:Nat,k<=ls.length/\kv= .int .i64 (k:Int)/\wr.ownsRow w2.heap.size 9 1 ov k ((lbs ((jH ls).take k)).map .string)/\Below w2.heap.size w2 wr) (λkv _ _ _=>ls.length-(intOf kv).toNat)
   case atStart=>exact⟨0,gU _,rfl,gZ _ _ _ _,gJ _ _⟩
   case round=>
    obtain⟨k,hk,rfl,hown,hB⟩:=hrel;obtain⟨ao,co,rfl,_⟩:=qj hown;have hsr:=hB.size;have HOWN:=qe hown;have HB:=qe hB;clear hown hB;by_cases hlt:k<ls.length
    ·obtain⟨b,off,rfl,hb,c0⟩:=HC.out k (by rw[ji];exact hlt);have c0:=(HB.out.cell (p:=⟨b,off+k,none⟩) hb).trans c0;rw[lbs_get hlt]at c0;obtain⟨x,hx⟩:=yM (⟨ls[k].toArray⟩:ByteArray);have hxs:x.size<=63:=by rw[hx];exact(HL3.out _ (Ht hlt)).2
     rw[<- hx]at c0;have hnx:=xw ls hlt;rw[<- hx]at hnx;have HNX:=qe hnx;clear hx hnx;go_wp2_with fail;refine(rlow_any x (by omega) _).mono ?_;rintro e w4 ⟨rfl,hB4⟩;have hs4:=hB4.size;have uk:=qm HOWN.out λb hb=>hB4.block b (HOWN.out.lt b hb).2;have hB5:=(HB.out.trans (hB4.mono hsr)).alloc (by omega) (.cells #[.string (kY x)] 9);have HOWN5:=qe (qm uk λb hb=>Below.heap_alloc w4 (.cells #[.string (kY x)] 9) b (uk.lt b hb).2);have p1:k+1<=maxLen:=by unfold maxLen;omega
     have p2:(k+1)*16<=140737488355328:=by omega
     have p3:w2.heap.size<=(w4.alloc (.cells #[.string (kY x)] 9)).heap.size:=by simp;omega
     have P1:=qe p1;have P2:=qe p2;have P3:=qe p3;have HB5:=qe hB5;clear p1 p2 p3 hB5 uk hB4 c0;go_wp2_with (at_builtin;refine wpList_append_own _ rfl _ _ 148 rfl w2.heap.size 9 i0 (.string ByteArray.empty) 1 16 Tryz.underlying148 HI.out HZ.out HZ1.out HZ2.out rfl (by decide) _ _ _ rfl HOWN5.out ⟨w4.heap.size,0,none⟩ 1 1 [.string (kY x)] rfl rfl (cell_one_new _ _ _) (by simp[Value.oneCell']) P1.out P2.out P3.out ?_);intro v' w10 zz jg hnn;have yt:=qe (HB5.out.grown jg P3.out (λj hj=>(HOWN5.out.lt j hj).1));have zV:=qe zz;clear zz jg hnn;go_wp2_with fail
     go_roundw
     case rel=>
      refine⟨k+1,by omega,by go_num,?_,yt.out⟩;have h:=zV.out;rw[HNX.out,List.map_append];exact h
     case measure=>simp[intOf];omega
    ·obtain rfl:k=ls.length:=by omega
     have hfull:(jH ls).take ls.length=jH ls:=List.take_of_length_le (by rw[HLL.out];exact gI _)
     have hrowv:ZV wr (.slice ao ls.length co) (lbs (jH ls)):=QZ (base:=w2.heap.size) (by
      have h:=HOWN.out;rw[hfull]at h;rw[ji,HLL.out];exact h)
     have HP:=qe (Uz (jH ls) (λl hl=>by have:=(Ja.out l hl).2;omega) (by have:=HPL.out;omega) _ wr hrowv);clear hfull hrowv;go_wp2_with fail;refine HP.out.mono ?_;rintro e w5 ⟨rfl,hB5⟩;rw[<- HF.out];have HB5:=qe (HB2.out.trans ((HB.out.trans (hB5.mono hsr)).mono hs2));clear hB5;go_wp2_with fail;go_ret;exact⟨rfl,HB5.out⟩
theorem zT (a b:ByteArray)(ha:a.size<=1099511627776)(hb:b.size<=1099511627776)(w:World):Calls Tryz.prog 55 #[.string a,.string b] w λe w'=>e= .returned (.bool (qG a b))/\Below w.heap.size w w':=by
 cases hca:qo a
 ·have hr:qG a b=false:=by unfold qG;rw[hca];rfl
  have HR:=qe hr;have HCA:=qe hca;clear hr hca
  go_enter Tryz.func55,Tryz.ntmps55
  go_wp2_with fail;refine(zu a ha _).mono ?_;rintro e w2 ⟨rfl,hB2⟩;rw[HCA.out];have HB2:=qe hB2;clear hB2;go_wp2_with fail;go_ret;exact⟨qI HR.out.symm,HB2.out⟩
 ·cases hcb:qo b
  ·have hr:qG a b=false:=by unfold qG;rw[hca,hcb];rfl
   have HR:=qe hr;have HCA:=qe hca;have HCB:=qe hcb;clear hr hca hcb
   go_enter Tryz.func55,Tryz.ntmps55
   go_wp2_with fail;refine(zu a ha _).mono ?_;rintro e w2 ⟨rfl,hB2⟩;rw[HCA.out];have HB2:=qe hB2;clear hB2;go_wp2_with fail;refine(zu b hb _).mono ?_;rintro e w3 ⟨rfl,hB3⟩;rw[HCB.out];have HB3:=qe (gm HB2.out hB3);clear hB3;go_wp2_with fail;go_ret;exact⟨qI HR.out.symm,HB3.out⟩
  ·have hr:qG a b=((qy a).toList == (qy b).toList):=by unfold qG qy;rw[hca,hcb];rfl
   have HR:=qe hr;have HCA:=qe hca;have HCB:=qe hcb;clear hr hca hcb
   go_enter Tryz.func55,Tryz.ntmps55
   go_wp2_with fail;refine(zu a ha _).mono ?_;rintro e w2 ⟨rfl,hB2⟩;rw[HCA.out];have HB2:=qe hB2;clear hB2;go_wp2_with fail;refine(zu b hb _).mono ?_;rintro e w3 ⟨rfl,hB3⟩;rw[HCB.out];have HB3:=qe (gm HB2.out hB3);clear hB3;go_wp2_with fail;refine(Vx a ha _).mono ?_;rintro e w4 ⟨rfl,hB4⟩;have HB4:=qe (gm HB3.out hB4);clear hB4;go_wp2_with fail;refine(Vx b hb _).mono ?_;rintro e w5 ⟨rfl,hB5⟩;have HB5:=qe (gm HB4.out hB5);clear hB5;go_wp2_with fail;go_ret;exact⟨qI HR.out.symm,HB5.out⟩
theorem lbs_drop (ls:List (List UInt8))(d:Nat):lbs (ls.drop d)=(lbs ls).drop d:=by unfold lbs;rw[List.map_drop]
theorem strRow_drop {w:World}{g:Nat}{n cap:Nat}{ls:List (List UInt8)}(h:ZV w (.slice (some ⟨g,0,none⟩) n cap) (lbs ls))(d c:Nat):ZV w (.slice (some ⟨g,d,none⟩) (n-d) c) (lbs (ls.drop d)):=by
 obtain⟨a,cap',hv,hc⟩:=h;simp only[gL]at hv;obtain⟨rfl,hn,rfl⟩:=hv;rw[ji]at hn;refine⟨some ⟨g,d,none⟩,c,by rw[ji,He,hn],λk hk=>?_⟩;rw[ji,He]at hk;obtain⟨b,off,hb,hl,hcell⟩:=hc (d+k) (by rw[ji];omega);simp only[gM,Addr.mk.injEq,and_true]at hb;obtain⟨rfl,rfl⟩:=hb;refine⟨g,d,rfl,hl,?_⟩;rw[Nat.zero_add]at hcell;rw[hcell];simp only[lbs_drop,List.getElem_drop]
theorem putL_drop_le (ls:List (List UInt8))(d:Nat):(zX (ls.drop d)).length<=(zX ls).length:=by
 induction ls generalizing d with
 | nil=>simp
 | cons x xs ih=>
   cases d with
   | zero=>exact gI _
   | succ d=>
     rw[List.drop_succ_cons];have:=ih d;have e:(zX (x :: xs)).length=1+x.length+(zX xs).length:=by simp[zX];omega
     omega
theorem rtail_any (s:ByteArray)(hs:s.size<=1099511627776)(k:Int)(w:World):Calls Tryz.prog 174 #[.string s,.int .i64 k] w λe w'=>e= .returned (.string (zQ s k))/\Below w.heap.size w w':=by
 have ht:=KP s k
 cases hr:rows s with
 | none=>
   have hf:zQ s k=ByteArray.empty:=by rw[ht,hr]
   have HF:=qe hf;have HR:=qe hr;clear hf hr ht
   go_enter Tryz.func174,Tryz.ntmps174
   go_wp2_with fail;refine(yE s hs _).mono ?_;rintro e w2 ⟨hB,v,rfl,_⟩;have HB:=qe hB;clear hB;rw[HR.out];go_wp2_with fail;go_ret;exact⟨xJ HF.out.symm,HB.out⟩
 | some ls=>
   obtain⟨l1,l2,l3⟩:=QX hr;rw[hr]at ht;simp only at ht;have HT:=qe ht;have HR:=qe hr;have HL2:=qe l2;have HL3:=qe l3;clear ht hr l2 l3
   go_enter Tryz.func174,Tryz.ntmps174
   go_wp2_with fail;refine(yE s hs _).mono ?_;rintro e w2 ⟨hB,v,rfl,hv⟩;have hown:=hv ls HR.out;have hrow:=QZ (w:=w2) (ss:=lbs ls) (by rw[ji];exact hown);obtain⟨a,cap,rfl,hcap⟩:=qj hown;have HB:=qe hB;have jG:=qe hrow;have HOWN:=qe hown;clear hB hrow hv hown;rw[HR.out];by_cases h0:0<=k
   ·by_cases h1:k<=(ls.length:Int)
    ·obtain⟨n,rfl⟩:∃n:Nat,k=(n:Int):=⟨k.toNat,by omega⟩;have hf:=HT.out;rw[if_pos ⟨h0,h1⟩]at hf;rw[Int.toNat_natCast]at hf;have hdl:∀l∈ls.drop (ls.length-n),l.length<=255:=λl hl=>by have:=(HL3.out l (List.mem_of_mem_drop hl)).2;omega
     have hdp:(zX (ls.drop (ls.length-n))).length<=1099511627776:=by have:=putL_drop_le ls (ls.length-n);have:=HL2.out;omega
     have HF:=qe hf;have HDL:=qe hdl;have HDP:=qe hdp;clear hf hdl hdp;rcases Go.Joins.ownsRow_forms HOWN.out with⟨hv,hz⟩|⟨g,capg,hv⟩
     ·simp only[gL]at hv;obtain⟨rfl,_,rfl⟩:=hv;obtain rfl:ls= []:=List.length_eq_zero_iff.1 hz;obtain rfl:n=0:=by simp at h1;omega
      go_wp2_with fail;refine(Uz [] (by simp) (by decide) _ w2 ⟨none,0,rfl,λk hk=>absurd hk (by simp[lbs])⟩).mono ?_;rintro e w3 ⟨rfl,hB3⟩;have HB3:=qe (gm HB.out hB3);clear hB3;go_wp2_with fail;go_ret;exact⟨xJ (by rw[HF.out];rfl),HB3.out⟩
     ·simp only[gL,true_and]at hv;obtain⟨rfl,rfl⟩:=hv;have hdrop:∀c,ZV w2 (.slice (some ⟨g,ls.length-n,none⟩) (ls.length-(ls.length-n)) c) (lbs (ls.drop (ls.length-n))):=λc=>strRow_drop jG.out (ls.length-n) c
      have hzero:cap=ls.length-n->ZV w2 (.slice (some ⟨g,0,none⟩) (ls.length-(ls.length-n)) 0) (lbs (ls.drop (ls.length-n))):=λh=>by
       obtain rfl:n=0:=by omega
       simp only[Nat.sub_zero,Nat.sub_self,List.drop_length];exact⟨_,_,rfl,λk hk=>absurd hk (by simp[lbs])⟩
      have HDROP:=qe hdrop;have HZERO:=qe hzero;clear hdrop hzero h0;go_wp2_with fail
      ·rename_i h
       refine(Uz _ HDL.out HDP.out _ w2 (HZERO.out h)).mono ?_;rintro e w3 ⟨rfl,hB3⟩;have HB3:=qe (gm HB.out hB3);clear hB3;go_wp2_with fail;go_ret;exact⟨xJ (by rw[HF.out];rfl),HB3.out⟩
      ·refine(Uz _ HDL.out HDP.out _ w2 (HDROP.out _)).mono ?_;rintro e w3 ⟨rfl,hB3⟩;have HB3:=qe (gm HB.out hB3);clear hB3;go_wp2_with fail;go_ret;exact⟨xJ (by rw[HF.out];rfl),HB3.out⟩
    ·have hf:=HT.out;rw[if_neg (λh=>h1 h.2)]at hf;have HF:=qe hf;clear hf;have h1':(ls.length:Int)<k:=by omega
     go_wp2_with fail;go_ret;exact⟨xJ HF.out.symm,HB.out⟩
   ·have hf:=HT.out;rw[if_neg (λh=>h0 h.1)]at hf;have HF:=qe hf;clear hf;have h0':k<0:=by omega
    go_wp2_with fail;go_ret;exact⟨xJ HF.out.symm,HB.out⟩
namespace nm
theorem count_small (s:ByteArray):-1<=qM s/\qM s<=255:=by
 rw[Qx]
 cases h:rows s with
 | none=>simp
 | some ls=>have:=(QX h).1;simp only;omega
theorem tailS_size (s:ByteArray)(k:Int):(zQ s k).size<=s.size:=by
 unfold zQ
 split
 ·rw[Hq];omega
 ·simp
theorem check_empty:qo ByteArray.empty=false:=by decide +kernel
theorem within_of {n z:ByteArray}{k:Int}(h0:0<=k)(h1:k<=qM n)(h:qG (zQ n k) z=true):zI n z=true:=by
 obtain⟨c1,c2⟩:=Xo h;rw[Qx]at h1;rw[jA]at c2
 cases hn:rows n with
 | none=>rw[hn]at h1;simp only at h1;omega
 | some x=>
   rw[hn]at h1;simp only at h1
   cases hz:rows z with
   | none=>rw[hz]at c2;exact absurd c2 (by simp)
   | some y=>
     obtain⟨t1,t2⟩:=uw hn h0 h1;rw[Ud t2 hz,H7]at h;have hl:=congrArg List.length h;unfold jH at hl;rw[List.length_map,List.length_map,He]at hl;have hk:k.toNat=y.length:=by omega
     rw[Zv hn hz];refine⟨by omega,?_⟩;rw[<- h,lowR_drop,hk]
theorem within_ex {n z:ByteArray}(h:zI n z=true):0<=qM z/\qM z<=qM n/\qG (zQ n (qM z)) z=true:=by
 unfold zI at h;simp only[gX,H7]at h;refine⟨h.1,?_,h.2⟩;have c:=(Xo h.2).1;unfold zQ at c
 split at c
 ·rename_i h';exact h'.2
 ·rw[check_empty]at c;exact absurd c (by simp)
theorem isstar_rows {s:ByteArray}{ls:List (List UInt8)}(h:rows s=some ls):kM s=decide (ls.head? =some [42]):=by
 obtain⟨_,h2,h3,_⟩:=yc h;unfold kM;rw[Qy h,Bool.true_and,h3];show Lib.hasPrefix (zX ls) [1,42]=_;unfold Lib.hasPrefix
 cases ls with
 | nil=>decide
 | cons x xs=>
   obtain⟨b1,b2⟩:=h2 x (List.mem_cons_self ..)
   cases x with
   | nil=>simp at b1
   | cons a x'=>
     cases x' with
     | nil=>simp only[zX,Ha,List.length_nil,List.cons_append,List.nil_append,List.isPrefixOf,List.head?_cons,gM,List.cons.injEq,and_true,Bool.and_true];by_cases ha:a=42 <;> simp[ha] <;> (intro h;exact ha h.symm)
     | cons c x'=>
       have hne:(1:UInt8)≠UInt8.ofNat (a :: c :: x').length:=by
        intro h;have:=congrArg UInt8.toNat h;rw[UInt8.toNat_ofNat']at this;simp only[Ha]at this b2;have h1:(1:UInt8).toNat=1:=rfl;rw[h1]at this;omega
       rw[zX,List.isPrefixOf];simp;intro h;exact absurd h (by simpa using hne)
end nm
theorem Ql (n z:ByteArray)(hn:n.size<=1099511627776)(hz:z.size<=1099511627776)(w:World):Calls Tryz.prog 131 #[.string n,.string z] w λe w'=>e= .returned (.bool (zI n z))/\Below w.heap.size w w':=by
 obtain⟨c1,c2⟩:=count_small n
 go_enter Tryz.func131,Tryz.ntmps131
 go_wp2_with fail
 go_loopw [5] (λkv wr=>∃k:Nat,(k:Int)<=qM n+1/\kv= .int .i64 (k:Int)/\(∀j:Nat,j<k->qG (zQ n j) z=false)/\Below w.heap.size w wr) (λkv _=>(qM n+1).toNat-(intOf kv).toNat)
 case atStart=>exact⟨0,by omega,rfl,λj hj=>absurd hj (by omega),gJ _ _⟩
 case round=>
  obtain⟨k,hk,rfl,hno,hB⟩:=hrel;have HNO:=qe hno;have HB:=qe hB;clear hno hB;go_wp2_with fail;refine(rcount_any n hn _).mono ?_;rintro e w2 ⟨rfl,hB2⟩;have HB2:=qe (gm HB.out hB2);clear hB2;by_cases hlt:(k:Int)<=qM n
  ·go_wp2_with fail;refine(rtail_any n hn _ _).mono ?_;rintro e w3 ⟨rfl,hB3⟩;have HB3:=qe (gm HB2.out hB3);clear hB3;go_wp2_with fail;refine(zT _ z (gQ (tailS_size n _) hn) hz _).mono ?_;rintro e w4 ⟨rfl,hB4⟩;have HB4:=qe (gm HB3.out hB4);clear hB4
   cases he:qG (zQ n (k:Int)) z
   ·have HE:=qe he;clear he;go_wp2_with fail
    go_roundw
    case rel=>
     refine⟨k+1,by omega,by go_num,λj hj=>?_,HB4.out⟩;rcases Nat.lt_or_ge j k with h | h
     ·exact HNO.out j h
     ·obtain rfl:j=k:=by omega
      exact HE.out
    case measure=>simp[intOf];omega
   ·have HW:=qe (within_of (by omega) hlt he);clear he;go_wp2_with fail;go_ret;exact⟨qI HW.out.symm,HB4.out⟩
  ·have hw:zI n z=false:=by
    cases hw:zI n z
    ·rfl
    ·obtain⟨h1,h2,h3⟩:=within_ex hw;have:=HNO.out (qM z).toNat (by omega);rw[Int.toNat_of_nonneg h1,h3]at this;exact absurd this (by simp)
   have HW:=qe hw;clear hw;go_wp2_with fail;go_ret;exact⟨qI HW.out.symm,HB2.out⟩
theorem Xa (s:ByteArray)(hs:s.size<=1099511627776)(w:World):Calls Tryz.prog 133 #[.string s] w λe w'=>e= .returned (.bool (kM s))/\Below w.heap.size w w':=by
 cases hr:rows s with
 | none=>
   have hf:kM s=false:=by unfold kM;rw[jA,hr];rfl
   have HF:=qe hf;have HR:=qe hr;clear hf hr
   go_enter Tryz.func133,Tryz.ntmps133
   go_wp2_with fail;refine(yE s hs _).mono ?_;rintro e w2 ⟨hB,v,rfl,_⟩;have HB:=qe hB;clear hB;rw[HR.out];go_wp2_with fail;go_ret;exact⟨qI HF.out.symm,HB.out⟩
 | some ls=>
   have HR:=qe hr;obtain⟨l1,l2,l3⟩:=QX hr;have hst:=isstar_rows hr;have HST:=qe hst;have HL3:=qe l3;clear hr hst l2 l3
   go_enter Tryz.func133,Tryz.ntmps133
   go_wp2_with fail;refine(yE s hs _).mono ?_;rintro e w2 ⟨hB2,v,rfl,hv⟩;have hrow:=QZ (w:=w2) (ss:=lbs ls) (by rw[ji];exact hv ls HR.out);obtain⟨a,cap,rfl,hc⟩:=hrow;rw[ji];have HB2:=qe hB2;have HC:=qe hc;clear hB2 hv hc;rw[HR.out];rcases Nat.eq_zero_or_pos ls.length with hz | hz
   ·have hf:kM s=false:=by rw[HST.out,List.length_eq_zero_iff.1 hz];rfl
    have HF:=qe hf;clear hf;go_wp2_with fail;go_ret;exact⟨qI HF.out.symm,HB2.out⟩
   ·obtain⟨b,off,rfl,hb,c0⟩:=HC.out 0 (by rw[ji];exact hz);rw[lbs_get hz,Nat.add_zero]at c0;have hf:kM s=((⟨ls[0].toArray⟩:ByteArray).toList == [42]):=by
     rw[HST.out,List.head?_eq_getElem?,List.getElem?_eq_getElem hz,Lib.toList_data];simp only[gM];show _=(ls[0].toArray.toList == [42]);rw[List.toList_toArray];by_cases h:ls[0]= [42] <;> simp[h]
    obtain⟨x,hx⟩:=yM (⟨ls[0].toArray⟩:ByteArray);rw[<- hx]at c0 hf;have HF:=qe hf;clear hf hx;go_wp2_with fail;go_ret;exact⟨qI HF.out.symm,HB2.out⟩
end Go.Proofs.YtpcmilhjpmlbpaaGreatDoor
