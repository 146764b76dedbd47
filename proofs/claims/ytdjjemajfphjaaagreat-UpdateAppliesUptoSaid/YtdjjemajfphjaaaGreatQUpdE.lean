import Derived.Test.YtdjjemajfphjaaaGreatQZoneC
import Derived.Deep.CutBlock
set_option maxRecDepth 100000
set_option maxHeartbeats 2000000
namespace Go.Proofs.YtdjjemajfphjaaaGreat
open Go.RowKit Go.Shelf Go.WideMaps Go.WideElems nm od
theorem row_like:(72:TypeId)<Tryz.prog.types.size:=of_decide_eq_true (by kernel_rfl)
theorem row_place:(68:TypeId)<Tryz.prog.types.size:=of_decide_eq_true (by kernel_rfl)
theorem row_rec:(51:TypeId)<Tryz.prog.types.size:=of_decide_eq_true (by kernel_rfl)
theorem wide_like:(match Tryz.prog.underlying 72 with | some (.array _ _) | some (.struct _)=>true | _=>false)=true:=by kernel_rfl
theorem wide_place:(match Tryz.prog.underlying 68 with | some (.array _ _) | some (.struct _)=>true | _=>false)=true:=by kernel_rfl
theorem wide_rec:(match Tryz.prog.underlying 51 with | some (.array _ _) | some (.struct _)=>true | _=>false)=true:=by kernel_rfl
theorem law_like:KeyLaw Tryz.prog 72:=deep_law_laid laidOut (m:=2) (by omega) row_like (by kernel_rfl) wide_like
theorem law_place:KeyLaw Tryz.prog 68:=deep_law_laid laidOut (m:=2) (by omega) row_place (by kernel_rfl) wide_place
theorem law_rec:KeyLaw Tryz.prog 51:=deep_law_laid laidOut (m:=2) (by omega) row_rec (by kernel_rfl) wide_rec
theorem co_like:Tryz.prog.cellsOf 72=3:=by kernel_rfl
theorem co_place:Tryz.prog.cellsOf 68=2:=by kernel_rfl
theorem co_rec:Tryz.prog.cellsOf 51=5:=by kernel_rfl
theorem kt_like:Tryz.prog.keyType 72=true:=by kernel_rfl
theorem kt_place:Tryz.prog.keyType 68=true:=by kernel_rfl
theorem kt_rec:Tryz.prog.keyType 51=true:=by kernel_rfl
def vN (r:Rec):Prop:=r.owner.size≤maxLen∧(Lit.int .i64 r.typ).wf=true∧(Lit.int .i64 r.cls).wf=true∧(Lit.int .i64 r.ttl).wf=true∧r.data.size≤maxLen
theorem lits_place (n:Nat)(a:ByteArray×Int)(ha:uR a):∃l,Tryz.prog.keyLits (n+2) 68 [.string a.1,.int .i64 a.2]=some l:=by
 obtain⟨k1,k2⟩:=ha
 simp[Program.keyLits,Tryz.underlying68,Tryz.underlying9,Tryz.underlying3,co_place,co_str,co_int,k1,k2]
theorem lits_like (n:Nat)(a:ByteArray×Int×ByteArray)(ha:jF a):∃l,Tryz.prog.keyLits (n+2) 72 [.string a.1,.int .i64 a.2.1,.string a.2.2]=some l:=by
 obtain⟨k1,k2,k3⟩:=ha
 simp[Program.keyLits,Tryz.underlying72,Tryz.underlying9,Tryz.underlying3,co_like,co_str,co_int,k1,k2,k3]
theorem lits_rec (n:Nat)(r:Rec)(ha:vN r):∃l,Tryz.prog.keyLits (n+2) 51 (recC r)=some l:=by
 obtain⟨k1,k2,k3,k4,k5⟩:=ha
 simp[Program.keyLits,Tryz.underlying51,Tryz.underlying9,Tryz.underlying3,co_rec,co_str,co_int,k1,k2,k3,k4,k5]
theorem placeE:Um Tryz.prog 68 xk uR where
 law:=law_place
 key:=fun a ha=>by
  obtain⟨l,hl⟩:=lits_place 238 a ha
  have hf:Value.formed Tryz.prog 68 (xk a)=true:=by kernel_rfl
  have hs:Tryz.prog.types.size=239:=by kernel_rfl
  refine⟨.string (keyBytes l),?_⟩
  unfold keyOf
  rw[Tryz.underlying68]
  simp only[kt_place,hf,Bool.and_true,if_true,hs]
  rw[show(xk a).cells.toList= [.string a.1,.int .i64 a.2] from rfl,hl]
  rfl
 inj:=keyE.inj
theorem likeE:Um Tryz.prog 72 kC jF where
 law:=law_like
 key:=fun a ha=>by
  obtain⟨l,hl⟩:=lits_like 238 a ha
  have hf:Value.formed Tryz.prog 72 (kC a)=true:=by kernel_rfl
  have hs:Tryz.prog.types.size=239:=by kernel_rfl
  refine⟨.string (keyBytes l),?_⟩
  unfold keyOf
  rw[Tryz.underlying72]
  simp only[kt_like,hf,Bool.and_true,if_true,hs]
  rw[show(kC a).cells.toList= [.string a.1,.int .i64 a.2.1,.string a.2.2] from rfl,hl]
  rfl
 inj:=fullE.inj
theorem recE:Um Tryz.prog 51 zB vN where
 law:=law_rec
 key:=fun a ha=>by
  obtain⟨l,hl⟩:=lits_rec 238 a ha
  have hf:Value.formed Tryz.prog 51 (zB a)=true:=by kernel_rfl
  have hs:Tryz.prog.types.size=239:=by kernel_rfl
  refine⟨.string (keyBytes l),?_⟩
  unfold keyOf
  rw[Tryz.underlying51]
  simp only[kt_rec,hf,Bool.and_true,if_true,hs]
  rw[show(zB a).cells.toList=recC a from rfl,hl]
  rfl
 inj:=fun a b h=>by
  obtain⟨a1,a2,a3,a4,a5⟩:=a
  obtain⟨b1,b2,b3,b4,b5⟩:=b
  simp at h
  simp[h]
end Go.Proofs.YtdjjemajfphjaaaGreat
namespace Go.Proofs.YtdjjemajfphjaaaGreat
open Go.RowKit Go.Shelf Go.WideMaps Go.WideElems nm od
theorem KV {P:Program}{α:Type}{qZ:α→Value}{Kok:α→Prop}{w:World}{b:Nat}{dom:List α}{val:α→Value}{t k e:TypeId}(h:yT qZ Kok w b dom val)(ht:P.underlying t=some (.map k e))(ty:TypeId):(Builtin.len_ #[t] ty #[.map (some b)]).run P w= .ok (.int .i64 (dom.length:Int)) w:=by
 obtain⟨_,_,es,c,hb,he,_⟩:=h
 have hl:es.size=dom.length:=by
  have:=congrArg List.length he
  simpa using this
 simp[Builtin.len_,run_underlying ht,MapKept.run_getObj_map hb,goInt,hl]
def Vr {α:Type} [DecidableEq α] (d1 d2:List α)(v1 v2:α→Int):Bool:=decide (d1.length=d2.length∧∀a∈d1,a∈d2∧v1 a=v2 a)
theorem equalLikes_any (d1 d2:List ((ByteArray×Int×ByteArray)))(v1 v2:(ByteArray×Int×ByteArray)→Int)(b1 b2:Nat)(w:World)(h1:yT kC jF w b1 d1 (fun a=>.int .i64 (v1 a)))(h2:yT kC jF w b2 d2 (fun a=>.int .i64 (v2 a))):
 Calls Tryz.prog 32 #[.map (some b1),.map (some b2)] w fun e w'=>e= .returned (.bool (Vr d1 d2 v1 v2))∧Below w.heap.size w w':=by
 have HM1:=Lib.hid h1;have HM2:=Lib.hid h2
 have l1:=KV h1 Tryz.underlying69 3
 have l2:=KV h2 Tryz.underlying69 3
 obtain⟨sb,hsb⟩:∃sb,sb=Vr d1 d2 v1 v2:=⟨_,rfl⟩
 rw[← hsb]
 have HSB:=Lib.hid hsb
 obtain⟨w1,X5,hRF,hB1,hs1⟩:=QH Tryz.underlying69 h1
 have HRF:=Lib.hid hRF;have HB1:=Lib.hid hB1
 clear h1 h2 hsb hRF hB1 hs1
 by_cases hln:d1.length=d2.length
 ·have f0:((d1.length:Int) != (d2.length:Int))=false:=by rw[bne_eq_false_iff_eq];omega
  have HLN:=Lib.hid hln
  clear hln
  go_enter Tryz.func32,Tryz.ntmps32
  go_wp2_with fail
  clear X5 l1 l2
  go_loopw [] (fun wr=>∃done,Hid (yN kC jF wr b1 w.heap.size d1 (fun a=>.int .i64 (v1 a)) done∧(∀a∈done,a∈d2∧v1 a=v2 a)∧Below w.heap.size w wr)) (fun wr=>wr.rangeLeft b1 w.heap.size)
  case atStart=>
   refine⟨[],Lib.hid ⟨HRF.out,?_,HB1.out⟩⟩
   intro a ha
   cases ha
  case round=>
   obtain⟨done,HR⟩:=hrel
   obtain⟨wo,hwo⟩:∃X:World,X=wr:=⟨_,rfl⟩
   subst hwo
   rcases HR.out.1.next (P:=Tryz.prog) 0 with⟨hall,hrun⟩|⟨κ,w9,hd,hnd,hrun,xY,hg9,hs9,hdec,hent⟩
   ·have HS:=Lib.hid (show sb=true by rw[HSB.out];exact decide_eq_true ⟨HLN.out,fun a ha=>HR.out.2.1 a (hall a ha)⟩)
    clear hall
    go_wp2_with fail
    go_ret
    exact⟨qA HS.out.symm,HR.out.2.2⟩
   ·obtain⟨wa,hwa⟩:∃W,W=w9.alloc (.cells ([.string κ.1,.int .i64 κ.2.1,.string κ.2.2]).toArray 72):=⟨_,rfl⟩
    have hB9:Below w.heap.size w w9:=HR.out.2.2.grown hg9 HR.out.2.2.size (fun j e=>by cases e;exact Nat.le_refl _)
    have hBa:Below w9.heap.size w9 wa:=by rw[hwa];exact(Below.refl _ w9).alloc (Nat.le_refl _) _
    have hBB:=hB9.trans (hBa.mono hB9.size)
    have hcell:∀j u,([.string κ.1,.int .i64 κ.2.1,.string κ.2.2])[j]? =some u→wa.cell? ⟨w9.heap.size,j,none⟩=some u:=fun j u hu=>by
     rw[hwa,qg (qo rfl)]
     simpa using hu
    have x0:=hcell 0 _ rfl;have x1:=hcell 1 _ rfl;have x2:=hcell 2 _ rfl
    have hok:jF κ:=xY.2.1 κ hd
    have Yz:=KU (P:=Tryz.prog) likeE Tryz.underlying69 xQ (HM2.out.below hBB HM2.out.lt) hok
    have hRFa:=xY.below hBa
    have hdeca:wa.rangeLeft b1 w.heap.size<wo.rangeLeft b1 w.heap.size:=by rw[jB (hBa.block b1 xY.map.lt) (hBa.block w.heap.size xY.lt)];exact hdec
    have HWA:=Lib.hid hwa;have HBB:=Lib.hid hBB;have HRFA:=Lib.hid hRFa;have HDEC:=Lib.hid hdeca;have HD:=Lib.hid hd
    clear hwa hB9 hBa hBB xY hg9 hs9 hdec hnd hok hRFa hdeca hcell hd
    go_upto_region 6 with fail
    rw[← HWA.out]
    clear hrun hent
    by_cases hin:κ∈d2
    ·rw[if_pos hin,decide_eq_true hin]at Yz
     by_cases hv:v1 κ=v2 κ
     ·have f1:(v1 κ != v2 κ)=false:=by rw[bne_eq_false_iff_eq];exact hv
      have HIN:=Lib.hid hin;have HV:=Lib.hid hv
      clear hin hv
      go_wp2_with fail
      go_roundw
      case rel=>
       refine⟨_,Lib.hid ⟨HRFA.out,fun a ha=>?_,HBB.out⟩⟩
       rcases List.mem_append.1 ha with h | h
       ·exact HR.out.2.1 a h
       ·obtain rfl:a=κ:=by simpa using h
        exact⟨HIN.out,HV.out⟩
      case measure=>exact HDEC.out
     ·have f1:(v1 κ != v2 κ)=true:=by rw[bne_iff_ne];exact hv
      have HS:=Lib.hid (show sb=false by rw[HSB.out];exact decide_eq_false fun h=>hv (h.2 κ HD.out).2)
      clear hin hv
      go_wp2_with fail
      go_ret
      exact⟨qA HS.out.symm,HBB.out⟩
    ·rw[if_neg hin,decide_eq_false hin]at Yz
     have HS:=Lib.hid (show sb=false by rw[HSB.out];exact decide_eq_false fun h=>hin (h.2 κ HD.out).1)
     clear hin
     go_wp2_with fail
     go_ret
     exact⟨qA HS.out.symm,HBB.out⟩
 ·have f0:((d1.length:Int) != (d2.length:Int))=true:=by rw[bne_iff_ne];omega
  have HS:=Lib.hid (show sb=false by rw[HSB.out];exact decide_eq_false fun h=>hln h.1)
  clear X5 hln
  go_enter Tryz.func32,Tryz.ntmps32
  go_wp2_with fail
  go_ret
  exact⟨qA HS.out.symm,Below.refl _ _⟩
theorem equalRecs_any (d1 d2:List (Rec))(v1 v2:Rec→Int)(b1 b2:Nat)(w:World)(h1:yT zB vN w b1 d1 (fun a=>.int .i64 (v1 a)))(h2:yT zB vN w b2 d2 (fun a=>.int .i64 (v2 a))):
 Calls Tryz.prog 44 #[.map (some b1),.map (some b2)] w fun e w'=>e= .returned (.bool (Vr d1 d2 v1 v2))∧Below w.heap.size w w':=by
 have HM1:=Lib.hid h1;have HM2:=Lib.hid h2
 have l1:=KV h1 Tryz.underlying83 3
 have l2:=KV h2 Tryz.underlying83 3
 obtain⟨sb,hsb⟩:∃sb,sb=Vr d1 d2 v1 v2:=⟨_,rfl⟩
 rw[← hsb]
 have HSB:=Lib.hid hsb
 obtain⟨w1,X5,hRF,hB1,hs1⟩:=QH Tryz.underlying83 h1
 have HRF:=Lib.hid hRF;have HB1:=Lib.hid hB1
 clear h1 h2 hsb hRF hB1 hs1
 by_cases hln:d1.length=d2.length
 ·have f0:((d1.length:Int) != (d2.length:Int))=false:=by rw[bne_eq_false_iff_eq];omega
  have HLN:=Lib.hid hln
  clear hln
  go_enter Tryz.func44,Tryz.ntmps44
  go_wp2_with fail
  clear X5 l1 l2
  go_loopw [] (fun wr=>∃done,Hid (yN zB vN wr b1 w.heap.size d1 (fun a=>.int .i64 (v1 a)) done∧(∀a∈done,a∈d2∧v1 a=v2 a)∧Below w.heap.size w wr)) (fun wr=>wr.rangeLeft b1 w.heap.size)
  case atStart=>
   refine⟨[],Lib.hid ⟨HRF.out,?_,HB1.out⟩⟩
   intro a ha
   cases ha
  case round=>
   obtain⟨done,HR⟩:=hrel
   obtain⟨wo,hwo⟩:∃X:World,X=wr:=⟨_,rfl⟩
   subst hwo
   rcases HR.out.1.next (P:=Tryz.prog) 0 with⟨hall,hrun⟩|⟨κ,w9,hd,hnd,hrun,xY,hg9,hs9,hdec,hent⟩
   ·have HS:=Lib.hid (show sb=true by rw[HSB.out];exact decide_eq_true ⟨HLN.out,fun a ha=>HR.out.2.1 a (hall a ha)⟩)
    clear hall
    go_wp2_with fail
    go_ret
    exact⟨qA HS.out.symm,HR.out.2.2⟩
   ·obtain⟨wa,hwa⟩:∃W,W=w9.alloc (.cells ((recC κ)).toArray 51):=⟨_,rfl⟩
    have hB9:Below w.heap.size w w9:=HR.out.2.2.grown hg9 HR.out.2.2.size (fun j e=>by cases e;exact Nat.le_refl _)
    have hBa:Below w9.heap.size w9 wa:=by rw[hwa];exact(Below.refl _ w9).alloc (Nat.le_refl _) _
    have hBB:=hB9.trans (hBa.mono hB9.size)
    have hcell:∀j u,((recC κ))[j]? =some u→wa.cell? ⟨w9.heap.size,j,none⟩=some u:=fun j u hu=>by
     rw[hwa,qg (qo rfl)]
     simpa using hu
    have x0:=hcell 0 _ rfl;have x1:=hcell 1 _ rfl;have x2:=hcell 2 _ rfl;have x3:=hcell 3 _ rfl;have x4:=hcell 4 _ rfl
    have hok:vN κ:=xY.2.1 κ hd
    have Yz:=KU (P:=Tryz.prog) recE Tryz.underlying83 xQ (HM2.out.below hBB HM2.out.lt) hok
    have hRFa:=xY.below hBa
    have hdeca:wa.rangeLeft b1 w.heap.size<wo.rangeLeft b1 w.heap.size:=by rw[jB (hBa.block b1 xY.map.lt) (hBa.block w.heap.size xY.lt)];exact hdec
    have HWA:=Lib.hid hwa;have HBB:=Lib.hid hBB;have HRFA:=Lib.hid hRFa;have HDEC:=Lib.hid hdeca;have HD:=Lib.hid hd
    clear hwa hB9 hBa hBB xY hg9 hs9 hdec hnd hok hRFa hdeca hcell hd
    go_upto_region 6 with fail
    rw[← HWA.out]
    clear hrun hent
    by_cases hin:κ∈d2
    ·rw[if_pos hin,decide_eq_true hin]at Yz
     by_cases hv:v1 κ=v2 κ
     ·have f1:(v1 κ != v2 κ)=false:=by rw[bne_eq_false_iff_eq];exact hv
      have HIN:=Lib.hid hin;have HV:=Lib.hid hv
      clear hin hv
      go_wp2_with fail
      go_roundw
      case rel=>
       refine⟨_,Lib.hid ⟨HRFA.out,fun a ha=>?_,HBB.out⟩⟩
       rcases List.mem_append.1 ha with h | h
       ·exact HR.out.2.1 a h
       ·obtain rfl:a=κ:=by simpa using h
        exact⟨HIN.out,HV.out⟩
      case measure=>exact HDEC.out
     ·have f1:(v1 κ != v2 κ)=true:=by rw[bne_iff_ne];exact hv
      have HS:=Lib.hid (show sb=false by rw[HSB.out];exact decide_eq_false fun h=>hv (h.2 κ HD.out).2)
      clear hin hv
      go_wp2_with fail
      go_ret
      exact⟨qA HS.out.symm,HBB.out⟩
    ·rw[if_neg hin,decide_eq_false hin]at Yz
     have HS:=Lib.hid (show sb=false by rw[HSB.out];exact decide_eq_false fun h=>hin (h.2 κ HD.out).1)
     clear hin
     go_wp2_with fail
     go_ret
     exact⟨qA HS.out.symm,HBB.out⟩
 ·have f0:((d1.length:Int) != (d2.length:Int))=true:=by rw[bne_iff_ne];omega
  have HS:=Lib.hid (show sb=false by rw[HSB.out];exact decide_eq_false fun h=>hln h.1)
  clear X5 hln
  go_enter Tryz.func44,Tryz.ntmps44
  go_wp2_with fail
  go_ret
  exact⟨qA HS.out.symm,Below.refl _ _⟩
end Go.Proofs.YtdjjemajfphjaaaGreat
