import Derived.Test.YtpcmilhjpmlbpaaGreatDoorQTrT
set_option maxRecDepth 100000
set_option maxHeartbeats 4000000
namespace Go.Proofs.YtpcmilhjpmlbpaaGreatDoor
open Go.RowKit Go.Shelf Go.WideMaps Go.WideElems nm od
theorem VQ:∀args w,(callFunc 154 args).run Tryz.prog w= .ok (.enter 154 args) w:=λ_ _=>by kernel_rfl
theorem without1_any (r:Rec)(hr:YH r)(m:List Rec)(b c:Nat)(w:World)(hc:w.cell? ⟨c,0,none⟩=some (.map (some b)))(hcl:c<w.heap.size)(hb:QA w b m):
 Calls Tryz.prog 154 #[yf r,.pointer (some ⟨c,0,none⟩)] w λe w'=>e= .returned (.bool (decide (r∈m)))/\Below w.heap.size w w':=by
 obtain⟨wa,hwa⟩:=yM (w.alloc (.cells (recC r).toArray 80));obtain⟨hBa,hsa,hxa⟩:=zf w wa r hwa;obtain⟨bx,hbx⟩:=yM w.heap.size;rw[<- hbx]at hxa;obtain⟨x0,x1,x2,x3,x4⟩:=id hxa;have c0:wa.cell? ⟨c,0,none⟩=some (.map (some b)):=(hBa.cell (p:=⟨c,0,none⟩) hcl).trans hc;obtain⟨hlk,-⟩:=VT (hb.below hBa hb.lt) hr;obtain⟨n,hn⟩:=yM (m.count r);rw[<- hn]at hlk;obtain⟨t,ht⟩:=yM (decide (r∈m));have HD:=qe (show decide (0<n)=t by
  rw[ht,hn];by_cases h:r∈m
  ·rw[gF h,gF (List.count_pos_iff.2 h)]
  ·rw[gp h,List.count_eq_zero_of_not_mem h];rfl)
 have HB:=qe hBa;have HWA:=qe hwa;have HBX:=qe hbx;have HT:=qe ht;rw[<- ht];clear hwa hBa hsa hbx hxa hn ht hb hc;simp only[yf]at hlk
 go_enter Tryz.func154,Tryz.ntmps154
 go_upto_region 1 with fail;rw[<- HWA.out,<- HBX.out];go_wp2_with fail;go_ret;exact⟨qI HD.out,HB.out⟩
theorem VX (l m:List Rec)(hl:l.length<=2000)(hm:m.length<=2000)(hokl:∀r∈l,YH r)(hokm:∀r∈m,YH r)(v u:Value)(w:World)(hf:zx v)(hrv:ql w v l)(hru:ql w u m):
 Calls Tryz.prog 106 #[v,u] w λe w'=>jk (tr.Zd l m) w e w':=by
 have hmm:=@run_makeMap Tryz.prog;have HV:=qe hrv;have HU:=qe hru;have HF:=qe hf;have HOKL:=qe hokl;have HOKM:=qe hokm;obtain⟨va,vc,rfl,-⟩:=id hrv;obtain⟨ua,uc,rfl,-⟩:=id hru;obtain⟨b,hb⟩:=yM w.heap.size;obtain⟨cb,hcb⟩:=yM (w.heap.size+1);obtain⟨w1,hw1⟩:=yM ((w.alloc (.map #[] 0)).alloc (.cells #[.map (some w.heap.size)] 212));have hA:Below w.heap.size w (w.alloc (.map #[] 0)):=(gJ _ w).alloc (gI _) _;have hB1:Below w.heap.size w w1:=by rw[hw1];exact hA.alloc (by simp) _
 have hM1:QA w1 b []:=by
  rw[hw1,hb];exact(ug.made w yf YH _).below ((gJ _ (w.alloc (.map #[] 0))).alloc (gI _) _) (by simp)
 have hC1:w1.cell? ⟨cb,0,none⟩=some (.map (some b)):=by rw[hw1,hcb,hb];simp
 have hcl:cb<w1.heap.size:=by rw[hw1,hcb];simp
 have HW1:=qe hw1;have HB1:=qe hB1;have HM1:=qe hM1;have HC1:=qe hC1;have HBB:=qe hb;have HCB:=qe hcb;have HCL:=qe hcl;clear hrv hru hf hokl hokm hw1 hA hB1 hM1 hC1 hcl hb hcb
 go_enter Tryz.func106,Tryz.ntmps106
 go_upto_region 2 with fail;rw[<- HW1.out,<- HCB.out,<- HBB.out];clear hmm;go_wp2_with fail
 go_loopw [11] (λkv wr=>∃k:Nat,k<=m.length/\kv= .int .i64 (k:Int)/\Hid (QA wr b (m.take k)/\wr.cell? ⟨cb,0,none⟩=some (.map (some b))/\cb<wr.heap.size/\Below w.heap.size w wr)) (λkv _=>m.length-(intOf kv).toNat)
 case atStart=>exact⟨0,gU _,rfl,qe ⟨HM1.out,HC1.out,HCL.out,HB1.out⟩⟩
 case round=>
  obtain⟨k,hk,rfl,HR⟩:=hrel;obtain⟨w3,hw3⟩:=yM wr;subst hw3;by_cases hlt:k<m.length
  ·obtain⟨bb,off,rfl⟩:=jm HU.out (Nat.lt_of_le_of_lt (gU _) hlt);have hki:(k:Int)<(m.length:Int):=by omega
   obtain⟨-,c0,c1,c2,c3,c4⟩:=qH (HU.out.below HR.out.2.2.2) hlt;obtain⟨x,hx⟩:=yM (m[k]);rw[<- hx]at c0 c1 c2 c3 c4;obtain⟨wa,hwa⟩:=yM (w3.alloc (.cells (recC x).toArray 80));obtain⟨hBa,hsa,hxa⟩:=zf w3 wa x hwa;obtain⟨bx,hbx⟩:=yM w3.heap.size;rw[<- hbx]at hxa;have hbxl:bx<wa.heap.size:=by omega
   have HWA:=qe hwa;have HX:=qe hx;have HLT:=qe hlt;have HXA:=qe hxa;have HBX:=qe hbx;have Uk:=qe hbxl;have HAL:=qe hBa;have HBA:=qe (Below.trans HR.out.2.2.2 (hBa.mono (Below.size HR.out.2.2.2)));clear hwa hx hBa hsa hxa hbx hbxl;go_upto_region 5 with fail;rw[<- HWA.out,<- HBX.out];clear c0 c1 c2 c3 c4 hki;obtain⟨z0,z1,z2,z3,z4⟩:=id HXA.out;simp only[Nat.zero_add]at z1 z2 z3 z4;have hBA0:QA wa b (m.take k):=HR.out.1.below HAL.out HR.out.1.lt;have c0:wa.cell? ⟨cb,0,none⟩=some (.map (some b)):=(HAL.out.cell (p:=⟨cb,0,none⟩) HR.out.2.2.1).trans HR.out.2.1;have hcl:cb<wa.heap.size:=gN HR.out.2.2.1 HAL.out.size;obtain⟨c,hc⟩:=yM ((m.take k).count x);have hcb2:c<=1000000000:=by rw[hc];refine gQ (List.count_le_length ..) ?_;rw[List.length_take];omega
   have hxok:YH x:=by rw[HX.out];exact HOKM.out _ (Ht _)
   obtain⟨hlk,st,w5,hrun5,hg5,hlk5,w6,hrun6,hg6,hBA6⟩:=VT (hBA0.drew) hxok;obtain⟨hlk0,-⟩:=VT hBA0 hxok;rw[<- hc]at hlk hlk5 hrun5 hrun6 hlk0;have hw:IntKind.i64.wrap ((c:Int)+1)=(c:Int)+1:=Hg _ (by omega);have hbb:b<wa.heap.size:=hBA0.lt;have hne:bx≠b:=by have h1:=HR.out.1.lt;have h2:=HBX.out;omega
   have hnc:cb≠b:=by have h1:=HBB.out;have h2:=HCB.out;omega
   have Kr:∀(d i:Nat) u,d≠b->d<wa.heap.size->wa.cell? ⟨d,i,none⟩=some u->w5.cell? ⟨d,i,none⟩=some u:=λd i u hd hdl h=>by
    rw[hg5.cell_far ⟨d,i,none⟩ hdl (by simpa using hd)];exact h
   have q0:=Kr _ _ _ hne Uk.out z0;have q1:=Kr _ _ _ hne Uk.out z1;have q2:=Kr _ _ _ hne Uk.out z2;have q3:=Kr _ _ _ hne Uk.out z3;have q4:=Kr _ _ _ hne Uk.out z4;have q5:=Kr _ _ _ hnc hcl c0
   have Kq:∀(d i:Nat) u,d≠b->d<wa.heap.size->w5.cell? ⟨d,i,none⟩=some u->w6.cell? ⟨d,i,none⟩=some u:=λd i u hd hdl h=>by
    rw[hg6.cell_far ⟨d,i,none⟩ (gN hdl hg5.size) (by simpa using hd)];exact h
   have r0:=Kq _ _ _ hne Uk.out q0;have r1:=Kq _ _ _ hne Uk.out q1;have r2:=Kq _ _ _ hne Uk.out q2;have r3:=Kq _ _ _ hne Uk.out q3;have r4:=Kq _ _ _ hne Uk.out q4;have r5:=Kq _ _ _ hnc hcl q5;have HEND:=qe (show QA w6 b (m.take (k+1)) by rw[gV HLT.out,<- HX.out];exact hBA6);have HC6:=qe r5;have h1:wa.drew.grownBy w6 (some b):=hg5.trans hg6;have HCL6:=qe (show cb<w6.heap.size from gN hcl h1.size);have HB6:=qe (show Below w.heap.size w w6 by
    refine((HBA.out.trans (gJ _ wa).drew)).grown h1 HBA.out.size (λj hj=>?_)
    cases hj
    exact Nat.le_of_eq HBB.out.symm)
   clear hBA0 hc hcb2 hxok hg5 hg6 hBA6 hbb hne hnc Kr Kq h1 hcl;simp only[yf]at hlk hlk0 hlk5 hrun5
   go_region
   all_goals
    clear hw hrun5 hrun6 hlk hlk0 hlk5 z0 z1 z2 z3 z4 c0 q0 q1 q2 q3 q4 q5 r0 r1 r2 r3 r4 r5;go_wp2_with fail
    go_roundw
    case rel=>exact⟨k+1,by omega,by go_num,qe ⟨HEND.out,HC6.out,HCL6.out,HB6.out⟩⟩
    case measure=>simp[intOf];omega
  ·obtain rfl:k=m.length:=by omega
   have HE:=qe (show QA w3 b m by have:=HR.out.1;rwa [List.take_length]at this);have HC:=qe (kX l (by omega) _ HF.out w3 (HV.out.below HR.out.2.2.2));clear hlt;go_wp2_with fail;refine HC.out.mono ?_;rintro e w4 ⟨v4,rfl,hB4,uk⟩;have hd:=JI 154 #[.pointer (some ⟨cb,0,none⟩)] VQ (λr=>decide (r∈m)) w3.heap.size w3 w4 l (by omega) v4 uk hB4 hB4.size (λr hr X hX=>
    without1_any r (HOKL.out r hr) m b cb X ((hX.cell (p:=⟨cb,0,none⟩) HR.out.2.2.1).trans HR.out.2.1) (gN HR.out.2.2.1 hX.size) (HE.out.below hX HE.out.lt))
   obtain⟨a4,c4,rfl,-⟩:=qj uk;have HD:=qe hd;have HB4:=qe hB4;have HO4:=qe uk;clear hB4 uk hd;go_wp2_with fail;refine HD.out.mono ?_;rintro e w5 ⟨v5,rfl,hown5,-,hg5⟩;have HO5:=qe (show w5.ownsRow w.heap.size 80 5 v5 (tr.Zd l m).length (qw (tr.Zd l m)) from qK hown5 HR.out.2.2.2.size);have HB5:=qe (HR.out.2.2.2.trans ((HB4.out.grown hg5 HB4.out.size (λj hj=>(HO4.out.lt j hj).1)).mono HR.out.2.2.2.size));obtain⟨a5,c5,rfl,-⟩:=qj hown5;clear hown5 hg5;go_wp2_with fail;go_ret;exact⟨_,rfl,HB5.out,HO5.out⟩
end Go.Proofs.YtpcmilhjpmlbpaaGreatDoor
