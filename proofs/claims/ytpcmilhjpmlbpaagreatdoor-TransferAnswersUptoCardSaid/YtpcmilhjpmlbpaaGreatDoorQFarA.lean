import Derived.Test.YtpcmilhjpmlbpaaGreatDoorQTrI
set_option maxRecDepth 100000
set_option maxHeartbeats 4000000
namespace Go.Proofs.YtpcmilhjpmlbpaaGreatDoor
open Go.RowKit Go.Shelf nm od
theorem UE {w:World}{v:Value}{l:List Rec}(h:qm w v l)(hp:0<l.length):yz v:=by
 obtain⟨a,cap,rfl,_,hr⟩:=h;obtain⟨b,off,rfl,_⟩:=hr 0 hp;exact .inr ⟨_,_,_,_,rfl⟩
theorem cloneEmpty_any (ad:Addr)(cap:Nat)(w:World):
 Calls Tryz.prog 38 #[.slice (some ad) 0 cap] w fun e w'=>∃v',e= .returned v'∧Below w.heap.size w w'∧w'.ownsRow w.heap.size 80 5 v' 0 []:=by
 have q31:∀(w:World) (a:Option Addr) (n c n' c':Nat),(binOp .eql 31 (.slice a n c) (.slice none n' c')).run Tryz.prog w= .ok (.bool a.isNone) w:=fun w a n c n' c'=>Lib.run_eql_slice_nil w _ _ a n c n' c' Tryz.underlying31;obtain⟨i0,hi,hz,hz1,hz2⟩:=info_parts jM;have HI:=qe hi;have HZ:=qe hz;have HZ1:=qe hz1;have HZ2:=qe hz2;clear hi hz hz1 hz2
 go_enter Tryz.func38,Tryz.ntmps38
 go_wp2_with (at_builtin;refine wpList_append_own _ rfl _ _ 31 rfl w.heap.size 80 i0 (.agg #[.string ⟨#[]⟩,.int .i64 0,.int .i64 0,.int .i64 0,.string ⟨#[]⟩]) 5 56 Tryz.underlying31 HI.out HZ.out HZ1.out HZ2.out rfl (by decide) _ _ _ rfl (World.ownsRow_made w #[] 0 (Nat.le_refl _) (Nat.zero_le _) (by simp)) ad 0 cap [] rfl rfl (fun j u h=>by cases h) (fun u h=>by cases h) (by unfold maxLen;omega) (by omega) (by simp) ?_);intro v' w1 hown hgrow hnil
 go_wp2
 go_ret;exact⟨v',rfl,((Below.refl _ w).alloc (Nat.le_refl _) _).grown hgrow (by simp) (by intro k hk;simp[Value.ownBlock]at hk;omega),by simpa using hown⟩
theorem cloneRecsA_any (l:List Rec)(hl:l.length*56≤140737488355328)(v:Value)(hf:yt v)(w:World)(hrv:qm w v l):
 Calls Tryz.prog 38 #[v] w fun e w'=>∃v',e= .returned v'∧Below w.heap.size w w'∧w'.ownsRow w.heap.size 80 5 v' l.length (qp l):=by
 by_cases hp:0<l.length
 ·exact kV l hl v (UE hrv hp) w hrv
 ·obtain rfl:l= []:=List.eq_nil_of_length_eq_zero (by omega);rcases hf with rfl | ⟨ad,n,cap,rfl⟩
  ·exact kV [] hl _ (.inl rfl) w hrv
  ·obtain⟨a,c,hv,_⟩:=hrv;simp only[Value.slice.injEq,List.length_nil]at hv;obtain⟨_,rfl,_⟩:=hv;exact cloneEmpty_any ad cap w
open Go.WideMaps
def XO (w:World)(lo z:Nat)(qg:ByteArray)(L:List Rec):Prop:=
 lo≤z∧∃(base rg cap sb tb:Nat) (l0:List Rec),(lo≤base∧lo≤rg∧lo≤sb∧lo≤tb)∧l0.Perm L∧kI w z qg (.slice (some ⟨rg,0,none⟩) L.length cap) (.map (some sb)) (.map (some tb))∧
  w.ownsRow 0 80 5 (.slice (some ⟨rg,0,none⟩) L.length cap) L.length (qp L)∧yC w base sb (zn.Ql l0) (zn.qI L)∧yx w tb (zn.UG (qK qg).toNat l0)
theorem XO.keep {w w':World}{lo z:Nat}{qg:ByteArray}{L:List Rec}(h:XO w lo z qg L)(hk:∀b,lo≤b→b<w.heap.size→w'.heap[b]? =w.heap[b]?):ZoneIn w' z qg L:=by
 obtain⟨hz,base,rg,cap,sb,tb,l0,⟨hb1,hb2,hb3,hb4⟩,k1,k2,k3,k4,k5⟩:=h;refine⟨base,rg,cap,sb,tb,l0,k1,(hk z hz (qA k2)).trans k2,qj k3 fun b hb=>?_,k4.keep fun b hb hlt=>hk b (by omega) hlt,k5.keep fun hlt=>hk tb hb4 hlt⟩;have h1:=(k3.lt b hb).2;simp only[Value.ownBlock,Option.some.injEq]at hb;subst hb;exact hk _ hb2 h1
def kP (qg:ByteArray)(l:List Rec)(w:World)(e:Ending)(w':World):Prop:=Below w.heap.size w w'∧match zn.yO qg l with
 | some (k,c)=>e= .returned (.tuple #[.pointer none,.int .i64 k,.int .i64 c])
 | none=>∃z L,w.heap.size≤z∧zS l L∧e= .returned (.tuple #[.pointer (some ⟨z,0,none⟩),.int .i64 0,.int .i64 0])∧XO w' w.heap.size z qg L
theorem kP.bad {qg:ByteArray}{l:List Rec}{w w':World}{k c:Int}(h:zn.yO qg l=some (k,c))(hB:Below w.heap.size w w'):kP qg l w (.returned (.tuple #[.pointer none,.int .i64 k,.int .i64 c])) w':=by
 unfold kP;rw[h];exact⟨hB,rfl⟩
def RZoneB (w:World)(lo z:Nat)(qg:ByteArray)(L:List Rec):Prop:=
 lo≤z∧∃g cap,lo≤g∧w.heap[z]? =some (.cells #[.string qg,.slice (some ⟨g,0,none⟩) L.length cap] 58 (0,0))∧qm w (.slice (some ⟨g,0,none⟩) L.length cap) L
theorem RZoneB.keep {w w':World}{lo z:Nat}{qg:ByteArray}{L:List Rec}(h:RZoneB w lo z qg L)(hs:w.heap.size≤w'.heap.size)(hk:∀b,lo≤b→b<w.heap.size→w'.heap[b]? =w.heap[b]?):xA w' z qg L:=by
 obtain⟨hz,g,cap,hg,h1,a,c,hv,hc,hr⟩:=h;refine⟨g,cap,(hk z hz (qA h1)).trans h1,a,c,hv,hc,fun k hkk=>?_⟩;obtain⟨b,off,ha,hbl,hra⟩:=hr k hkk;have hbg:b=g:=by
  simp only[Value.slice.injEq]at hv;have h:=hv.1.trans ha;simp only[Option.some.injEq,Addr.mk.injEq]at h;exact h.1.symm
 exact⟨b,off,ha,Nat.lt_of_lt_of_le hbl hs,hra.keep (hk b (by omega) hbl)⟩
def xV (qg:ByteArray)(l:List Rec)(w:World)(e:Ending)(w':World):Prop:=Below w.heap.size w w'∧match zn.yO qg l with
 | some (k,c)=>e= .returned (.tuple #[.pointer none,.int .i64 k,.int .i64 c])
 | none=>∃z L,zS l L∧e= .returned (.tuple #[.pointer (some ⟨z,0,none⟩),.int .i64 0,.int .i64 0])∧RZoneB w' w.heap.size z qg L
theorem xV.bad {qg:ByteArray}{l:List Rec}{w w':World}{k c:Int}(h:zn.yO qg l=some (k,c))(hB:Below w.heap.size w w'):xV qg l w (.returned (.tuple #[.pointer none,.int .i64 k,.int .i64 c])) w':=by
 refine⟨hB,?_⟩;rw[h]
theorem xV.good {qg:ByteArray}{l L:List Rec}{w w':World}{z:Nat}(h:zn.yO qg l=none)(hB:Below w.heap.size w w')(hs:zS l L)(hz:RZoneB w' w.heap.size z qg L):xV qg l w (.returned (.tuple #[.pointer (some ⟨z,0,none⟩),.int .i64 0,.int .i64 0])) w':=by
 refine⟨hB,?_⟩;rw[h];exact⟨z,L,hs,rfl,hz⟩
theorem new_anyB (qg:ByteArray)(l:List Rec)(hok:∀r∈l,(Lit.int .i64 r.typ).wf=true)(rv:Value)(hf:yt rv)(w:World)(hrv:qm w rv l):
 Calls Tryz.prog 45 #[.string qg,rv] w fun e w'=>kP qg l w e w':=by
 cases hap:qo qg
 ·refine(new_name qg hap rv w).mono ?_;rintro e w' ⟨rfl,hB⟩;exact kP.bad (by unfold zn.yO;rw[if_pos hap]) hB
 ·obtain⟨w1,hw1⟩:∃X,X=((w.alloc (.cells #[.pointer none] 43)).alloc (.cells #[.int .i64 0] 3)).alloc (.cells #[.int .i64 0] 47):=⟨_,rfl⟩;obtain⟨h4,h5,h6,hB1⟩:=new_cells w w1 hw1;have hs1:w1.heap.size=w.heap.size+3:=by rw[hw1];simp
  obtain⟨a,cap,rfl,hcap,hrr⟩:=hrv;have hrv:qm w (.slice a l.length cap) l:=⟨a,cap,rfl,hcap,hrr⟩;have HAP:=qe hap;have HW1:=qe hw1;have H4:=qe h4;have H5:=qe h5;have H6:=qe h6;have HB1:=qe hB1;have HRV:=qe hrv;have HF:=qe hf;have HOK:=qe hok;clear hap hw1 h4 h5 h6 hB1 hrr hrv hf hok;have hmf:=Uu;by_cases hmany:2000<l.length
  ·have hb:decide ((2000:Int)<(l.length:Int))=true:=decide_eq_true (by omega);have HM:=qe hmany;clear hmany
   go_enter_defers Tryz.func45,Tryz.ntmps45
   go_wp2_with fail;rw[← HW1.out];refine(zt _ _).mono ?_;rintro e w2 ⟨rfl,hB2⟩;rw[HAP.out,vK];have HB2:=qe hB2;clear hB2;go_wp2_with fail;exact Ur _ w.heap.size _ (-1) 20 (.pointer none) (.int .i64 0) (.int .i64 0) w2 ((HB2.out.block _ (qA H4.out)).trans H4.out) ((HB2.out.block _ (qA H5.out)).trans H5.out) ((HB2.out.block _ (qA H6.out)).trans H6.out) rfl rfl rfl
    (fun w' h=>kP.bad (newE_many HAP.out HM.out) ((HB1.out.trans (HB2.out.mono HB1.out.size)).trans h))
  ·have hb:decide ((2000:Int)<(l.length:Int))=false:=decide_eq_false (by omega);have HM:=qe hmany;have hl:l.length≤2000:=by omega
   clear hmany
   go_enter_defers Tryz.func45,Tryz.ntmps45
   go_wp2_with fail;rw[← HW1.out];refine(zt _ _).mono ?_;rintro e w2 ⟨rfl,hB2⟩;rw[HAP.out,vK];have hs2:w1.heap.size≤w2.heap.size:=hB2.size;have hBw2:=HB1.out.trans (hB2.mono (by omega));have h4:=(hB2.block _ (qA H4.out)).trans H4.out;have h5:=(hB2.block _ (qA H5.out)).trans H5.out;have h6:=(hB2.block _ (qA H6.out)).trans H6.out;have HB2:=qe hB2;have Zk:=qe hBw2;have G4:=qe h4;have G5:=qe h5;have G6:=qe h6;clear hB2 hBw2 h4 h5 h6;go_wp2_with fail;refine(cloneRecsA_any l (by omega) _ HF.out _ (HRV.out.below Zk.out)).mono ?_;rintro e w3 ⟨v3,rfl,hB3,hown3⟩;obtain⟨a3,cap3,rfl,hcap3⟩:=qi hown3;have hs3:w2.heap.size≤w3.heap.size:=hB3.size;have hBw3:=Zk.out.trans (hB3.mono (by omega));have h4:=(hB3.block _ (qA G4.out)).trans G4.out;have h5:=(hB3.block _ (qA G5.out)).trans G5.out;have h6:=(hB3.block _ (qA G6.out)).trans G6.out;obtain⟨oz,hoz⟩:∃o,o=Obj.cells #[.string qg,.slice a3 l.length cap3,.map none,.map none] 117:=⟨_,rfl⟩;have c4:=fun o=>(qh (zg h4 o) 0).trans (rfl:(#[Value.pointer none])[0]? =some (.pointer none));have f4:=fun o=>qE (zg h4 o) 0;obtain⟨wz,hwz⟩:∃X,X=(w3.alloc oz).setCell ⟨w.heap.size,0,none⟩ (.pointer (some ⟨w3.heap.size,0,none⟩)):=⟨_,rfl⟩;have hsz:wz.heap.size=w3.heap.size+1:=by rw[hwz];simp[World.setCell]
   have g4:wz.heap[w.heap.size]? =some (.cells #[.pointer (some ⟨w3.heap.size,0,none⟩)] 43 (0,0)):=by rw[hwz];exact qC (zg h4 oz) 0 _
   have g5:wz.heap[w.heap.size+1]? =some (.cells #[.int .i64 0] 3 (0,0)):=by rw[hwz];exact zu (zg h5 oz) (by simp) _
   have g6:wz.heap[w.heap.size+2]? =some (.cells #[.int .i64 0] 47 (0,0)):=by rw[hwz];exact zu (zg h6 oz) (by simp) _
   have hzz:kI wz w3.heap.size qg (.slice a3 l.length cap3) (.map none) (.map none):=by
    rw[hwz];have:=zu (qz (w:=w3) (o:=oz) rfl) (a:=⟨w.heap.size,0,none⟩) (by simp;omega) (.pointer (some ⟨w3.heap.size,0,none⟩));rw[hoz]at this;rw[hoz];exact this
   have hBz:Below w.heap.size w wz:=by rw[hwz];exact(hBw3.alloc (by omega) oz).setCell (Nat.le_refl _) _
   have hownz:wz.ownsRow w2.heap.size 80 5 (.slice a3 l.length cap3) l.length (qp l):=by
    rw[hwz];refine qj hown3 fun b hb=>?_;have h1:=hown3.lt b hb;have:b≠w.heap.size:=by omega
    rw[Below.heap_setCell _ _ _ _ this,Below.heap_alloc _ _ _ h1.2]
   rw[hoz]at hwz;have hrecz:=qD hownz;have czz:wz.cell? ⟨w.heap.size,0,none⟩=some (.pointer (some ⟨w3.heap.size,0,none⟩)):=by rw[qh g4];rfl
   have HWZ:=qe hwz;have HG4:=qe g4;have HG5:=qe g5;have HG6:=qe g6;have HZZ:=qe hzz;have HBZ:=qe hBz;have HOWNZ:=qe hownz;have HRECZ:=qe hrecz;have HCZZ:=qe czz;clear hB3 hown3 hBw3 h4 h5 h6 hoz hwz g4 g5 g6 hzz hBz hownz hrecz czz;go_wp2_with fail;rw[← HWZ.out];clear c4 f4;refine(plain_any qg l hl w3.heap.size _ _ _ wz HZZ.out HRECZ.out).mono ?_;intro e w4 hp;obtain⟨ht,hB4⟩:=hp;have hs4:wz.heap.size≤w4.heap.size:=hB4.size;have c4:=(hB4.cell (p:=⟨w.heap.size,0,none⟩) (by show w.heap.size<_;omega)).trans HCZZ.out;have g4:=(hB4.block _ (qA HG4.out)).trans HG4.out;have g5:=(hB4.block _ (qA HG5.out)).trans HG5.out;have g6:=(hB4.block _ (qA HG6.out)).trans HG6.out;have HK4:=qe g4;have HK5:=qe g5;have HK6:=qe g6;have HB4:=qe hB4;clear g4 g5 g6 hB4;rcases hpl:zn.kg qg l with _ | ⟨k,c⟩
   ·rw[hpl]at ht;obtain rfl:e=_:=ht;have HPL:=qe hpl;clear hpl;have hpn:=plain_all HPL.out;go_wp2_with fail;have hz4:=(HB4.out.block _ (qA HZZ.out)).trans HZZ.out;have jX:=qj HOWNZ.out fun b hb=>HB4.out.block b (HOWNZ.out.lt b hb).2;have hz3:∀b,(Value.slice a3 l.length cap3).ownBlock=some b→b≠w3.heap.size:=fun b hb e=>by
     subst e;exact Ye jX hb hz4
    refine(gather_any qg HAP.out l hl (fun r hr=>⟨(hpn r hr).1,HOK.out r hr⟩) w3.heap.size _ _ _ w4 hz4 (fun W hg=>qD (qj jX fun b hb=>hg.block b (jX.lt b hb).2 (by simpa using hz3 b hb)))).mono ?_;rintro e w5 ⟨rfl,hg5,sb,tb,hsb,htb,hst,hz5,hS5,hT5⟩;have hzl:w3.heap.size<w4.heap.size:=qA hz4;have hBw5:Below w.heap.size w w5:=(HBZ.out.trans (HB4.out.mono (by omega))).grown hg5 (by omega) (fun j e=>by cases e;omega);have hown5:=qj jX fun b hb=>hg5.block b (jX.lt b hb).2 (by simpa using hz3 b hb);have hs5:w4.heap.size≤w5.heap.size:=hg5.size;have k4:=(hg5.block w.heap.size (by omega) (by simp;omega)).trans HK4.out;have k5:=(hg5.block (w.heap.size+1) (by omega) (by simp;omega)).trans HK5.out;have k6:=(hg5.block (w.heap.size+2) (by omega) (by simp;omega)).trans HK6.out;have c5:w5.cell? ⟨w.heap.size,0,none⟩=some (.pointer (some ⟨w3.heap.size,0,none⟩)):=by rw[qh k4];rfl
    have HOWN5:=qe hown5;have HZ5:=qe hz5;have HS5:=qe hS5;have HT5:=qe hT5;have HBW5:=qe hBw5;have HL4:=qe k4;have HL5:=qe k5;have HL6:=qe k6;have HPN:=qe hpn;clear hpn hz4 jX hz3 hg5 hz5 hS5 hT5 hBw5 hown5 k4 k5 k6 c4;go_wp2_with fail;refine(rules_any qg l hl (fun r hr=>⟨(HPN.out r hr).1,HOK.out r hr⟩) w3.heap.size sb w4.heap.size _ _ w5 HZ5.out (qD HOWN5.out) HS5.out).mono ?_;intro e w6 hp;obtain⟨ht,hB6⟩:=hp;have hs6:w5.heap.size≤w6.heap.size:=hB6.size;have hBw6:=HBW5.out.trans (hB6.mono (by omega));have k4:=(hB6.block _ (qA HL4.out)).trans HL4.out;have k5:=(hB6.block _ (qA HL5.out)).trans HL5.out;have k6:=(hB6.block _ (qA HL6.out)).trans HL6.out;have hz6:=(hB6.block _ (qA HZ5.out)).trans HZ5.out;have hown6:=qj HOWN5.out fun b hb=>hB6.block b (HOWN5.out.lt b hb).2;have hS6:=HS5.out.below hB6;have hT6:=HT5.out.below hB6;have c6:w6.cell? ⟨w.heap.size,0,none⟩=some (.pointer (some ⟨w3.heap.size,0,none⟩)):=by rw[qh k4];rfl
    have z6:w6.cell? ⟨w3.heap.size,1,none⟩=some (.slice a3 l.length cap3):=by rw[qh hz6];rfl
    have HM4:=qe k4;have HM5:=qe k5;have HM6:=qe k6;have HBW6:=qe hBw6;have HZ6:=qe hz6;have HOWN6:=qe hown6;have HS6:=qe hS6;have HT6:=qe hT6;clear k4 k5 k6 hBw6 hz6 hown6 hS6 hT6 hB6 c5;rcases hru:zn.zU qg l with _ | ⟨k,c⟩
    ·rw[hru]at ht;obtain rfl:e=_:=ht;have HRU:=qe hru;clear hru;have hpos:=rules_pos HRU.out;obtain⟨g3,cap4,hv,hg30,hg31⟩:=HOWN6.out.form hpos;simp only[Value.slice.injEq,true_and]at hv;obtain⟨rfl,rfl⟩:=hv;have HRB:=qe hg30;go_wp2_with fail;refine(Uc l hl (fun r hr=>(HPN.out r hr).1) _ g3 cap3 w6 HOWN6.out).mono ?_;rintro e w7 ⟨rfl,hg7,L,hL,Kl⟩;have hn:zn.jN l:=fun r hr=>(HPN.out r hr).1;have hu:zn.Uniq l:=zn.uniq_of (zn.Qm (zn.Zx HRU.out));have hLl:L.length=l.length:=hL.1.length_eq;have hs7:w6.heap.size≤w7.heap.size:=hg7.size;have hg3:w2.heap.size≤g3∧g3<w3.heap.size+1:=by
      have h1:=HOWNZ.out.lt g3 rfl;omega
     have hBw7:=HBW6.out.grown hg7 (by omega) (fun j e=>by cases e;omega);have hne3:g3≠w3.heap.size:=fun e=>by subst e;exact Ye HOWN6.out rfl HZ6.out
     have hz7:=(hg7.block _ (qA HZ6.out) (by simpa using Ne.symm hne3)).trans HZ6.out;have k4:=(hg7.block w.heap.size (by omega) (by simp;omega)).trans HM4.out;have k5:=(hg7.block (w.heap.size+1) (by omega) (by simp;omega)).trans HM5.out;have k6:=(hg7.block (w.heap.size+2) (by omega) (by simp;omega)).trans HM6.out;have hS7:yC w7 w4.heap.size sb (zn.Ql l) (zn.qI l):=HS6.out.keep fun b hb hlt=>hg7.block b hlt (by simp;omega);have hT7:yx w7 tb (zn.UG (qK qg).toNat l):=HT6.out.grown hg7 (by simp;omega);obtain⟨val7,hM7,hR7,hD7⟩:=hS7;have hS7:yC w7 w4.heap.size sb (zn.Ql l) (zn.qI l):=⟨val7,hM7,hR7,hD7⟩;obtain⟨w8,hrun8,hRF8,hB8,hs8⟩:=mapF_range Tryz.underlying114 hM7;have c7:w7.cell? ⟨w.heap.size,0,none⟩=some (.pointer (some ⟨w3.heap.size,0,none⟩)):=by rw[qh k4];rfl
     have z7:w7.cell? ⟨w3.heap.size,2,none⟩=some (.map (some sb)):=by rw[qh hz7];rfl
     have HBW7:=qe hBw7;have HZ7:=qe hz7;have HN4:=qe k4;have HN5:=qe k5;have HN6:=qe k6;have HS7:=qe hS7;have HT7:=qe hT7;have HRF8:=qe hRF8;have HB8:=qe hB8;have HOWN7:=qe Kl;have HL:=qe hL;have HNN:=qe hn;have HUU:=qe hu;have HLL:=qe hLl;have HS8:=qe hs8;have hs8':w7.heap.size<w8.heap.size:=by omega
     clear hg7 hBw7 hz7 k4 k5 k6 hS7 hT7 hM7 hR7 hD7 hRF8 hB8 Kl hL hn hu hLl hs8 c6 z6;go_wp2_with fail;clear hrun8 c7 z7
     go_loopw [] (fun wr=>LoopN w8 wr w4.heap.size sb tb w7.heap.size l L val7 (qK qg).toNat) (fun wr=>wr.rangeLeft sb w7.heap.size)
     case atStart=>
      exact⟨[],HRF8.out,(HS7.out.below HB8.out).congr (fun κ _=>by simp),HT7.out.below HB8.out,Below.refl _ _⟩
     case round=>
      obtain⟨done,hRF,hS,hT,hB⟩:=hrel;have hsr:w8.heap.size≤wr.heap.size:=hB.size;have hB7r:Below w4.heap.size w7 wr:=(HB8.out.mono (by omega)).trans hB;have hzr:=(hB7r.block _ hzl).trans HZ7.out;have k4:=(hB7r.block w.heap.size (by omega)).trans HN4.out;have k5:=(hB7r.block (w.heap.size+1) (by omega)).trans HN5.out;have k6:=(hB7r.block (w.heap.size+2) (by omega)).trans HN6.out;have hBwr:Below w.heap.size w wr:=HBW7.out.trans (hB7r.mono (by omega));rcases hRF.next (P:=Tryz.prog) 0 with⟨hall,hrun⟩|⟨κ,w9,hd,hnd,hrun,hRF9,hg9,hs9,hdec,hent⟩
      ·have c4:wr.cell? ⟨w.heap.size,0,none⟩=some (.pointer (some ⟨w3.heap.size,0,none⟩)):=by rw[qh k4];rfl
       have c5:wr.cell? ⟨w.heap.size+1,0,none⟩=some (.int .i64 0):=by rw[qh k5];rfl
       have c6:wr.cell? ⟨w.heap.size+2,0,none⟩=some (.int .i64 0):=by rw[qh k6];rfl
       have f4:wr.frozen? ⟨w.heap.size,0,none⟩=false:=qE k4 0;have f5:wr.frozen? ⟨w.heap.size+1,0,none⟩=false:=qE k5 0;have f6:wr.frozen? ⟨w.heap.size+2,0,none⟩=false:=qE k6 0;have zD:=qe hall;have HS:=qe hS;have HT:=qe hT;have HZR:=qe hzr;have HBWR:=qe hBwr;have K4:=qe k4;have K5:=qe k5;have K6:=qe k6;have HB7R:=qe hB7r;clear hRF hall hS hT hzr hBwr k4 k5 k6 hB7r hB;go_wp2_with fail;obtain⟨We,hWe⟩:∃X,X=((wr.setCell ⟨w.heap.size,0,none⟩ (.pointer (some ⟨w3.heap.size,0,none⟩))).setCell ⟨w.heap.size+1,0,none⟩ (.int .i64 0)).setCell ⟨w.heap.size+2,0,none⟩ (.int .i64 0):=⟨_,rfl⟩;have d4:We.heap[w.heap.size]? =some (.cells #[.pointer (some ⟨w3.heap.size,0,none⟩)] 43 (0,0)):=by
        rw[hWe];exact zu (zu (qC K4.out 0 _) (by simp) _) (by simp) _
       have d5:We.heap[w.heap.size+1]? =some (.cells #[.int .i64 0] 3 (0,0)):=by
        rw[hWe];exact zu (qC (zu K5.out (by simp) _) 0 _) (by simp) _
       have d6:We.heap[w.heap.size+2]? =some (.cells #[.int .i64 0] 47 (0,0)):=by
        rw[hWe];exact qC (zu (zu K6.out (by simp) _) (by simp) _) 0 _
       have KN:∀b,b≠w.heap.size→b≠w.heap.size+1→b≠w.heap.size+2→We.heap[b]? =wr.heap[b]?:=fun b n1 n2 n3=>by
        rw[hWe,Below.heap_setCell _ _ _ _ n3,Below.heap_setCell _ _ _ _ n2,Below.heap_setCell _ _ _ _ n1]
       have hBe:Below w.heap.size w We:=by
        rw[hWe];exact((HBWR.out.setCell (Nat.le_refl _) _).setCell (Nat.le_succ _) _).setCell (by simp only;omega) _
       have hsb':=hsb;have htb':=htb;have hzone:XO We w.heap.size w3.heap.size qg L:=by
        refine⟨by omega,w4.heap.size,g3,cap3,sb,tb,l,⟨by omega,by omega,by omega,by omega⟩,HL.out.1.symm,?_,?_,?_,?_⟩
        ·rw[HLL.out];exact(KN _ (by omega) (by omega) (by omega)).trans HZR.out
        ·rw[HLL.out];refine qG (qj HOWN7.out fun b hb=>?_) (Nat.zero_le _);obtain rfl:g3=b:=by simpa[Value.ownBlock] using hb
         exact(KN _ (by omega) (by omega) (by omega)).trans (HB7R.out.block _ (by omega))
        ·refine(HS.out.congr fun κ hκ=>by rw[if_pos (zD.out κ hκ)]).keep fun b hb _=>KN b (by omega) (by omega) (by omega)
        ·exact HT.out.keep fun _=>KN tb (by omega) (by omega) (by omega)
       have hpost:kP qg l w (.returned (.tuple #[.pointer (some ⟨w3.heap.size,0,none⟩),.int .i64 0,.int .i64 0])) We:=by
        unfold kP;rw[(newE_rules HAP.out HM.out HPL.out).trans HRU.out];exact⟨hBe,_,L,by omega,HL.out,rfl,hzone⟩
       rw[← hWe];exact new_out _ w.heap.size w3.heap.size _ We (by rw[qh d4];rfl) (by rw[qh d5];rfl) (by rw[qh d6];rfl) rfl rfl rfl hpost
      ·have hs9':wr.heap.size≤w9.heap.size:=hg9.size;have hκ:JB κ:=hRF.2.1 κ hd;have hiter:=hRF.iterObj;have hrl:=hRF.lt;have hS9:=hS.grownIter hg9 hiter;have hT9:=hT.grown hg9 (by
        obtain⟨es,c,hm⟩:=hT.Q5;obtain⟨_,_,_,_,hi⟩:=hiter
        simpa using Uz hi hm (by simp))
       obtain⟨ok,hok⟩:∃o,o=Obj.cells #[.string κ.1,.int .i64 κ.2] 140:=⟨_,rfl⟩;obtain⟨W,hW⟩:∃X,X=(w9.alloc ok).drew:=⟨_,rfl⟩;have hB9W:Below w9.heap.size w9 W:=by rw[hW];exact((Below.refl _ w9).alloc (Nat.le_refl _) ok).drew
       have hSW:=hS9.below hB9W;have hTW:=hT9.below hB9W;have hRW:=hRF9.below hB9W;have hsW:W.heap.size=w9.heap.size+1:=by rw[hW];simp
       have hFκ:(if κ∈done then zn.qI L κ else zn.qI l κ)=zn.qI l κ:=if_neg hnd;obtain⟨g,capg,hlk,hown,hbg,hgl,hgs,hupd⟩:=sets_take hSW hκ hd (by rw[hFκ];exact zn.X4 hd);rw[hFκ]at hlk hown hupd;have hB8W:Below w4.heap.size w8 W:=(hB.grown hg9 (by omega) (fun j e=>by cases e;omega)).trans (hB9W.mono (by omega));have hB7W:Below w4.heap.size w7 W:=(HB8.out.mono (by omega)).trans hB8W;have hzW:=(hB7W.block _ hzl).trans HZ7.out;have k4W:=(hB7W.block w.heap.size (by omega)).trans HN4.out;have e1:W.cell? ⟨w.heap.size,0,none⟩=some (.pointer (some ⟨w3.heap.size,0,none⟩)):=by rw[qh k4W];rfl
       have e2:W.cell? ⟨w3.heap.size,2,none⟩=some (.map (some sb)):=by rw[qh hzW];rfl
       have hko:W.heap[w9.heap.size]? =some (.cells #[.string κ.1,.int .i64 κ.2] 140 (0,0)):=by rw[hW,hok];exact qz (w:=w9) rfl
       have e3:W.cell? ⟨w9.heap.size,0,none⟩=some (.string κ.1):=by rw[qh hko];rfl
       have e4:W.cell? ⟨w9.heap.size,1,none⟩=some (.int .i64 κ.2):=by rw[qh hko];rfl
       have hlen:(zn.qI l κ).length≤l.length:=List.length_filter_le _ _;obtain⟨κ1,κ2⟩:=κ;have HLK:=qe hlk;have HOWN:=qe hown;have HUPD:=qe hupd;have HE1:=qe e1;have HE2:=qe e2;have HE3:=qe e3;have HE4:=qe e4;have HW:=qe hW;have HOK2:=qe hok;have HRF9:=qe hRF9;have HRW:=qe hRW;have HTW:=qe hTW;have HDEC:=qe hdec;have HB8W:=qe hB8W;have HB9W:=qe hB9W;have HFK:=qe hFκ;have HHD:=qe hd;have HND:=qe hnd;clear hlk hown hupd e1 e2 e3 e4 hW hok hRF9 hRW hTW hdec hB8W hB9W hFκ hd hnd hRF hS hT hB hS9 hT9 hSW hg9 hko k4W hzW hB7W k4 k5 k6 hzr hBwr hB7r hiter;have HS9:=qe hs9;clear hs9;go_wp2_with fail;have ho2:Obj.cells #[.string κ1,.int .i64 κ2] 140=ok:=HOK2.out.symm;rw[ho2];clear ho2 hrun hent;refine wp_region_still_tail 6 (by kernel_rfl) (by kernel_rfl) ?_;have hws:({ heap:=(w9.alloc ok).heap,tape:=(w9.alloc ok).tape,drawn:=(w9.alloc ok).drawn+1,os:=(w9.alloc ok).os,output:=(w9.alloc ok).output}:World)=W:=HW.out.symm;rw[hws];clear hws;have e1:=HE1.out;have e2:=HE2.out;have e3:=HE3.out;have e4:=HE4.out;have hlk:=HLK.out;simp only[List.take_succ_cons,List.take_zero,List.drop_succ_cons,List.drop_zero]
       repeat still_step
       refine wpStill_nil ?_;go_wp2_with fail;have hin:∀r∈zn.qI l (κ1,κ2),r∈l:=fun r hr=>(List.mem_filter.1 hr).1;refine(Uc (zn.qI l (κ1,κ2)) (by omega) (fun r hr=>HNN.out r (hin r hr)) _ g capg W HOWN.out).mono ?_;rintro e w11 ⟨rfl,hg11,L',hL',hown11⟩;have hLe:L'=zn.qI L (κ1,κ2):=hL'.eq (HL.out.rows (κ1,κ2)) (fun r hr=>HNN.out r (hin r hr)) (HUU.out.sub hin);have hS11:=HUPD.out w11 L' hL'.1.length_eq hg11 hown11;have hgr:g≠w7.heap.size:=fun e=>by
        subst e;obtain⟨c',fz,hc⟩:=Lib.ownsRow_kind HOWN.out _ rfl;obtain⟨_,_,_,_,hi⟩:=HRW.out.iterObj;rw[hi]at hc
        cases hc
       have hgt:g≠tb:=fun e=>by
        subst e;obtain⟨es,c,hm⟩:=HTW.out.Q5;exact jI HOWN.out hm rfl
       have hRF11:=HRW.out.grown hg11 (by simpa using hgs) (by simpa using hgr);have hT11:=HTW.out.grown hg11 (by simpa using hgt);have Yk:=HB8W.out.grown hg11 (by omega) (fun j e=>by cases e;exact hbg);have hrl:w11.rangeLeft sb w7.heap.size<wr.rangeLeft sb w7.heap.size:=by
        have h1:=HRF9.out.map.lt;have h2:=HRF9.out.lt;have h3:w11.rangeLeft sb w7.heap.size=w9.rangeLeft sb w7.heap.size:=rangeLeft_keep ((hg11.block sb (by omega) (by simpa using Ne.symm hgs)).trans (HB9W.out.block sb h1)) ((hg11.block _ (by omega) (by simpa using Ne.symm hgr)).trans (HB9W.out.block _ h2));rw[h3];exact HDEC.out
       have HS11:=qe hS11;have HRF11:=qe hRF11;have HT11:=qe hT11;have HB11:=qe Yk;have HRL:=qe hrl;have HLE:=qe hLe;clear hS11 hRF11 hT11 Yk hrl hLe hL' hown11 hg11 hin e1 e2 e3 e4 hlk;go_wp2_with fail
       go_roundw
       case rel=>
        refine⟨done ++ [(κ1,κ2)],HRF11.out,HS11.out.congr fun κ' _=>?_,HT11.out,HB11.out⟩;by_cases he:κ'=(κ1,κ2)
        ·subst he;simp[HLE.out]
        ·simp[he]
       case measure=>exact HRL.out
    ·rw[hru]at ht;obtain rfl:e=_:=ht;have HRU:=qe hru;clear hru;go_wp2_with fail;exact Ur _ w.heap.size _ k c _ _ _ w6 HM4.out HM5.out HM6.out rfl rfl rfl (fun w' h=>kP.bad ((newE_rules HAP.out HM.out HPL.out).trans HRU.out) (HBW6.out.trans h))
   ·rw[hpl]at ht;obtain rfl:e=_:=ht;have HPL:=qe hpl;clear hpl;go_wp2_with fail;exact Ur _ w.heap.size _ k c _ _ _ w4 HK4.out HK5.out HK6.out rfl rfl rfl (fun w' h=>kP.bad (newE_plain HAP.out HM.out HPL.out) ((HBZ.out.trans (HB4.out.mono (by omega))).trans h))
theorem rmake_anyB (qg:ByteArray)(Xm:qg.size≤1099511627776)(l:List Rec)(hsz:∀r∈l,r.owner.size≤1099511627776)(v:Value)(w:World)(hrv:qm w v l):
 Calls Tryz.prog 46 #[.string qg,v] w fun e w'=>xV qg l w e w':=by
 obtain⟨a,cap,hv,hcap,_⟩:=id hrv
 cases hap:qo qg
 ·have hr:zn.yO qg l=some (-1,1):=by unfold zn.yO;rw[if_pos hap]
  have HAP:=qe hap;have HR:=qe hr;have HRV:=qe hrv;have HSZ:=qe hsz;have HV:=qe hv;clear hap hr hrv hsz hv
  go_enter Tryz.func46,Tryz.ntmps46
  go_wp2_with fail;refine(zA _ Xm _).mono ?_;rintro e w2 ⟨rfl,hB2⟩;rw[HAP.out];go_wp2_with fail
  go_ret3
  exact xV.bad HR.out hB2
 ·by_cases hl:2000<l.length
  ·have hr:zn.yO qg l=some (-1,20):=newE_many hap hl;have hl':(2000:Int)<(l.length:Int):=by omega
   subst hv;have HAP:=qe hap;have HR:=qe hr;have HRV:=qe hrv;have HSZ:=qe hsz;clear hap hr hrv hsz
   go_enter Tryz.func46,Tryz.ntmps46
   go_wp2_with fail;refine(zA _ Xm _).mono ?_;rintro e w2 ⟨rfl,hB2⟩;rw[HAP.out];go_wp2_with fail
   go_ret3
   exact xV.bad HR.out hB2
  ·have hr:=zn.chain_newE hap hl;have hl':(l.length:Int)≤2000:=by omega
   have hl2:l.length≤2000:=by omega
   subst hv;have HAP:=qe hap;have HR:=qe hr;have HRV:=qe hrv;have HSZ:=qe hsz;clear hap hr hrv hsz;clear hl
   go_enter Tryz.func46,Tryz.ntmps46
   go_wp2_with fail;refine(zA _ Xm _).mono ?_;rintro e w2 ⟨rfl,hB2⟩;rw[HAP.out];obtain⟨w3,hw3⟩:∃W,W=w2.alloc (.cells codesC 47):=⟨_,rfl⟩;have hB3:Below w2.heap.size w2 w3:=by rw[hw3];exact(Below.refl _ _).alloc (Nat.le_refl _) _
   have hcod:w3.heap[w2.heap.size]? =some (.cells codesC 47 (0,0)):=by rw[hw3];exact heap_alloc_new _ _
   have hzc:=qA hcod;have hrv3:=(HRV.out.below hB2).below hB3;have HBw3:=qe (hB2.trans (hB3.mono hB2.size));have hs3:=HBw3.out.size;unfold codesC at hw3;have HW3:=qe hw3;have HCOD:=qe hcod;have HRV3:=qe hrv3;clear hw3 hcod hrv3;clear hB2 hB3;go_wp2_with fail;rw[← HW3.out]
   go_loopw [8,9] (fun rv _ wr=>∃r:Nat,2≤r∧r≤11∧rv= .int .i64 (r:Int)∧zn.yO qg l=zn.xm qg l (11-r) r∧(3≤r→zn.jN l)∧Below w3.heap.size w3 wr) (fun rv _ _=>11-(intOf rv).toNat)
   case atStart=>exact⟨2,by omega,by omega,rfl,HR.out,(fun h=>by omega),Below.refl _ _⟩
   case round=>
    obtain⟨r,hr2,hr11,rfl,hne,hnm,hB⟩:=hrel;have hsr:=hB.size;have HNE:=qe hne;have HNM:=qe hnm;have HB:=qe hB;clear hne hnm hB;by_cases h10:r≤10
    ·have h10':(r:Int)≤10:=by omega
     have hr2':(2:Int)≤(r:Int):=by omega
     go_wp2_with fail;obtain⟨wo,hwo⟩:∃wo:World,wo=wr:=⟨_,rfl⟩;subst hwo
     go_loopw [23,9] (fun kv _ wi=>∃k:Nat,k≤l.length∧kv= .int .i64 (k:Int)∧(∀j,j<k→zn.QA qg l r j=false)∧Below w3.heap.size w3 wi) (fun kv _ _=>l.length-(intOf kv).toNat)
     case atStart=>exact⟨0,Nat.zero_le _,rfl,(fun j h=>by omega),HB.out⟩
     case round=>
      obtain⟨k,hk,rfl,hno,hBi⟩:=hrel;have hsi:=hBi.size;have HNO:=qe hno;have HBI:=qe hBi;clear hno hBi;by_cases hlt:k<l.length
      ·have hcall:=rbreaks_any qg HAP.out l k hlt hl2 HSZ.out r hr2 h10 (fun h=>HNM.out (by omega)) _ wr (HRV3.out.below HBI.out)
       cases hb:zn.QA qg l r k
       ·have yR:∀j,j<k+1→zn.QA qg l r j=false:=fun j h=>by
         rcases Nat.lt_or_ge j k with h' | h'
         ·exact HNO.out j h'
         ·obtain rfl:j=k:=by omega
          exact hb
        rw[hb]at hcall;have uk:=qe yR;have HB:=qe hb;have UM:=qe hcall;clear yR hb hcall;go_wp2_with fail;refine UM.out.mono ?_;rintro e w5 ⟨rfl,hB5⟩;have HB5:=qe (HBI.out.trans (hB5.mono hsi));clear hB5;go_wp2_with fail
        go_roundw
        case rel=>exact⟨k+1,by omega,by go_num,uk.out,HB5.out⟩
        case measure=>simp[intOf];omega
       ·have hres:zn.yO qg l=some ((k:Int),zn.codeR r):=by
         rw[HNE.out,show 11-r=(10-r)+1 by omega];exact zn.chain_hit hlt hb HNO.out
        rw[hb]at hcall;have HB:=qe hb;have UM:=qe hcall;have zH:=qe hres;clear hb hcall hres;go_wp2_with fail;refine UM.out.mono ?_;rintro e w5 ⟨rfl,hB5⟩;have HB5:=qe (HBI.out.trans (hB5.mono hsi));have hcc:=(HB5.out.cell (p:=⟨w2.heap.size,r,none⟩) hzc).trans (codes_at HCOD.out r hr2 h10);have e1:=qf hcc;have lr:(0:Int)≤(r:Int):=by omega
        have lr2:(r:Int)<11:=by omega
        clear hB5 hcc;go_wp2_with fail;refine ql (by kernel_rfl) (by kernel_rfl) ?_
        repeat (with_reducible refine wpQuiet_step (fun K hK=>?_);go_simp;(try simp only[undef]);first | (with_reducible refine hK _ ?_;clear hK K))
        refine wpQuiet_nil ?_
        (try simp only[show Value.tuple #[]=undef from rfl])
        intro W hW;have hBW:Below w5.heap.size w5 W:=by obtain⟨g,rfl⟩:=hW;exact qB _ g
        clear hW;have HBW:=qe (HBw3.out.trans ((HB5.out.trans (hBW.mono HB5.out.size)).mono hs3));clear hBW e1;go_wp2_with fail
        go_ret3
        exact xV.bad zH.out HBW.out
      ·obtain rfl:k=l.length:=by omega
       have hst:zn.yO qg l=if r=5∧zn.hasB l qg 6=false then some (-1,15) else if r=6∧zn.hasB l qg 2=false then some (-1,16) else zn.xm qg l (11-(r+1)) (r+1):=by
        rw[HNE.out,show 11-r=(11-(r+1))+1 by omega];exact zn.chain_miss HNO.out
       have hnm2:3≤r+1→zn.jN l:=fun h=>by
        by_cases h3:3≤r
        ·exact HNM.out h3
        ·obtain rfl:r=2:=by omega
         intro x hx;obtain⟨j,hj,rfl⟩:=List.getElem_of_mem hx;have:=HNO.out j hj;have h2:zn.atB l zn.jV j=false:=this;rw[zn.uM hj]at h2;unfold zn.jV at h2
         cases hh:qo l[j].owner
         ·rw[hh]at h2;simp at h2
         ·rfl
       have hhas:=fun n hn t=>rhas_any l (by omega) HSZ.out n hn t _ wr (HRV3.out.below HBI.out);have HNM2:=qe hnm2;have HHAS:=qe hhas;clear hnm2 hhas;by_cases h5:r=5
       ·have b5:((r:Int) == 5)=true:=by rw[beq_iff_eq];omega
        have b6:((r:Int) == 6)=false:=by rw[beq_eq_false_iff_ne];omega
        cases hh:zn.hasB l qg 6
        ·have hres:zn.yO qg l=some (-1,15):=by rw[hst,if_pos ⟨h5,hh⟩]
         have H5:=qe h5;have HH:=qe hh;have zH:=qe hres;clear h5 hh hres;clear hst;go_wp2_with fail;refine(HHAS.out qg Xm 6).mono ?_;rintro e w5 ⟨rfl,hB5⟩;rw[HH.out];have HB5:=qe (HBw3.out.trans ((HBI.out.trans (hB5.mono hsi)).mono hs3));clear hB5;go_wp2_with fail
         go_ret3
         exact xV.bad zH.out HB5.out
        ·have hres:zn.yO qg l=zn.xm qg l (11-(r+1)) (r+1):=by rw[hst,if_neg (fun h=>by rw[hh]at h;exact absurd h.2 (by simp)),if_neg (fun h=>by omega)]
         have H5:=qe h5;have HH:=qe hh;have zH:=qe hres;clear h5 hh hres;clear hst;go_wp2_with fail;refine(HHAS.out qg Xm 6).mono ?_;rintro e w5 ⟨rfl,hB5⟩;rw[HH.out];have HB5:=qe (HBI.out.trans (hB5.mono hsi));clear hB5;go_wp2_with fail
         go_roundw
         case rel=>exact⟨r+1,by omega,by omega,by go_num,zH.out,HNM2.out,HB5.out⟩
         case measure=>simp[intOf];omega
       ·have b5:((r:Int) == 5)=false:=by rw[beq_eq_false_iff_ne];omega
        rw[if_neg (fun h=>h5 h.1)]at hst;by_cases h6:r=6
        ·have b6:((r:Int) == 6)=true:=by rw[beq_iff_eq];omega
         cases hh:zn.hasB l qg 2
         ·have hres:zn.yO qg l=some (-1,16):=by rw[hst,if_pos ⟨h6,hh⟩]
          have H5:=qe h5;have H6:=qe h6;have HH:=qe hh;have zH:=qe hres;clear h5 h6 hh hres;clear hst;go_wp2_with fail;refine(HHAS.out qg Xm 2).mono ?_;rintro e w5 ⟨rfl,hB5⟩;rw[HH.out];have HB5:=qe (HBw3.out.trans ((HBI.out.trans (hB5.mono hsi)).mono hs3));clear hB5;go_wp2_with fail
          go_ret3
          exact xV.bad zH.out HB5.out
         ·have hres:zn.yO qg l=zn.xm qg l (11-(r+1)) (r+1):=by rw[hst,if_neg (fun h=>by rw[hh]at h;exact absurd h.2 (by simp))]
          have H5:=qe h5;have H6:=qe h6;have HH:=qe hh;have zH:=qe hres;clear h5 h6 hh hres;clear hst;go_wp2_with fail;refine(HHAS.out qg Xm 2).mono ?_;rintro e w5 ⟨rfl,hB5⟩;rw[HH.out];have HB5:=qe (HBI.out.trans (hB5.mono hsi));clear hB5;go_wp2_with fail
          go_roundw
          case rel=>exact⟨r+1,by omega,by omega,by go_num,zH.out,HNM2.out,HB5.out⟩
          case measure=>simp[intOf];omega
        ·have b6:((r:Int) == 6)=false:=by rw[beq_eq_false_iff_ne];omega
         rw[if_neg (fun h=>h6 h.1)]at hst;have H5:=qe h5;have H6:=qe h6;have HST:=qe hst;clear h5 h6 hst;go_wp2_with fail
         go_roundw
         case rel=>exact⟨r+1,by omega,by omega,by go_num,HST.out,HNM2.out,HBI.out⟩
         case measure=>simp[intOf];omega
    ·have h10':(10:Int)<(r:Int):=by omega
     have hres:zn.yO qg l=none:=by
      rw[HNE.out,show 11-r=0 by omega];rfl
     have hpos:0<l.length:=rules_pos (zn.Y3 hres).rules;have hs:=rsorted_any l.length l (Nat.le_refl _) (by omega) (HNM.out (by omega)) _ wr (UE (HRV3.out.below HB.out) hpos) (HRV3.out.below HB.out);have zH:=qe hres;have HS:=qe hs;clear hres hs;go_wp2_with fail;refine HS.out.mono ?_;rintro e w5 ⟨v5,L,rfl,hB5,hso,hown⟩;obtain⟨g,c5,rfl⟩:∃g c5,v5= .slice (some ⟨g,0,none⟩) L.length c5:=by
      obtain⟨g,c,hv,_⟩:=hown.form (by rw[hso.1.length_eq];exact hpos);exact⟨g,c,hv⟩
     have hz5:=HB.out.trans (hB5.mono hsr);have hrec:=qD hown;have kQ:Hid (xV qg l w (.returned (.tuple #[.pointer (some ⟨w5.heap.size,0,none⟩),.int .i64 0,.int .i64 0])) (w5.alloc (.cells #[.string qg,.slice (some ⟨g,0,none⟩) L.length c5] 58))):=by
      have hA:Below w5.heap.size w5 (w5.alloc (.cells #[.string qg,.slice (some ⟨g,0,none⟩) L.length c5] 58)):=(Below.refl _ _).alloc (Nat.le_refl _) _;exact qe (xV.good zH.out (HBw3.out.trans ((hz5.trans (hA.mono hz5.size)).mono hs3)) hso ⟨by have:=hz5.size;omega,g,c5,by have:=(hown.lt g rfl).1;omega,qz rfl,hrec.below hA⟩)
     clear hz5 hrec hB5 hso hown;go_wp2_with fail
     go_ret3
     exact kQ.out
end Go.Proofs.YtpcmilhjpmlbpaaGreatDoor
