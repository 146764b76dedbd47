import Derived.Test.YtpcmilhjpmlbpaaGreatDoorQCpL
import Derived.Deep.RegionHeld3
import Derived.Deep.CutBlock
import Derived.Deep.RegionLaw
set_option maxRecDepth 100000
set_option maxHeartbeats 8000000
namespace Go.Proofs.YtpcmilhjpmlbpaaGreatDoor
open Go.RowKit Go.Shelf nm od
theorem Yx {w:World}{v:Value}{l:List Rec}(h:ql w v l)(hp:0<l.length):zx v:=by
 obtain⟨a,cap,rfl,_,hr⟩:=h;obtain⟨b,off,rfl,_⟩:=hr 0 hp;exact .inr ⟨_,_,_,_,rfl⟩
theorem cloneEmpty_any (ad:Addr)(cap:Nat)(w:World):
 Calls Tryz.prog 38 #[.slice (some ad) 0 cap] w λe w'=>∃v',e= .returned v'/\Below w.heap.size w w'/\w'.ownsRow w.heap.size 80 5 v' 0 []:=by
 have q31:∀(w:World) (a:Option Addr) (n c n' c':Nat),(binOp .eql 31 (.slice a n c) (.slice none n' c')).run Tryz.prog w= .ok (.bool a.isNone) w:=λw a n c n' c'=>Lib.run_eql_slice_nil w _ _ a n c n' c' Tryz.underlying31;obtain⟨i0,hi,hz,hz1,hz2⟩:=info_parts kT;have HI:=qe hi;have HZ:=qe hz;have HZ1:=qe hz1;have HZ2:=qe hz2;clear hi hz hz1 hz2
 go_enter Tryz.func38,Tryz.ntmps38
 go_wp2_with (at_builtin;refine wpList_append_own _ rfl _ _ 31 rfl w.heap.size 80 i0 (.agg #[.string ⟨#[]⟩,.int .i64 0,.int .i64 0,.int .i64 0,.string ⟨#[]⟩]) 5 56 Tryz.underlying31 HI.out HZ.out HZ1.out HZ2.out rfl (by decide) _ _ _ rfl (World.ownsRow_made w #[] 0 (gI _) (gU _) (by simp)) ad 0 cap [] rfl rfl (λj u h=>by cases h) (λu h=>by cases h) (by unfold maxLen;omega) (by omega) (by simp) ?_);intro v' w1 hown hgrow hnil
 go_wp2
 go_ret;exact⟨v',rfl,((gJ _ w).alloc (gI _) _).grown hgrow (by simp) (by intro k hk;simp[Value.ownBlock]at hk;omega),by simpa using hown⟩
theorem cloneRecsA_any (l:List Rec)(hl:l.length*56<=140737488355328)(v:Value)(hf:yn v)(w:World)(hrv:ql w v l):
 Calls Tryz.prog 38 #[v] w λe w'=>∃v',e= .returned v'/\Below w.heap.size w w'/\w'.ownsRow w.heap.size 80 5 v' l.length (qw l):=by
 by_cases hp:0<l.length
 ·exact kX l hl v (Yx hrv hp) w hrv
 ·obtain rfl:l= []:=Hm (by omega);rcases hf with rfl | ⟨ad,n,cap,rfl⟩
  ·exact kX [] hl _ (.inl rfl) w hrv
  ·obtain⟨a,c,hv,_⟩:=hrv;simp only[gL,List.length_nil]at hv;obtain⟨_,rfl,_⟩:=hv;exact cloneEmpty_any ad cap w
open Go.WideMaps
def XX (w:World)(lo z:Nat)(qf:ByteArray)(L:List Rec):Prop:=
 lo<=z/\∃(base rg cap sb tb:Nat) (l0:List Rec),(lo<=base/\lo<=rg/\lo<=sb/\lo<=tb)/\l0.Perm L/\kR w z qf (.slice (some ⟨rg,0,none⟩) L.length cap) (.map (some sb)) (.map (some tb))/\
  w.ownsRow 0 80 5 (.slice (some ⟨rg,0,none⟩) L.length cap) L.length (qw L)/\yB w base sb (zn.Qu l0) (zn.qJ L)/\yo w tb (zn.U3 (qM qf).toNat l0)
theorem XX.keep {w w':World}{lo z:Nat}{qf:ByteArray}{L:List Rec}(h:XX w lo z qf L)(hk:∀b,lo<=b->b<w.heap.size->w'.heap[b]? =w.heap[b]?):ZoneIn w' z qf L:=by
 obtain⟨hz,base,rg,cap,sb,tb,l0,⟨hb1,hb2,hb3,hb4⟩,k1,k2,k3,k4,k5⟩:=h;refine⟨base,rg,cap,sb,tb,l0,k1,(hk z hz (qA k2)).trans k2,qm k3 λb hb=>?_,k4.keep λb hb hlt=>hk b (by omega) hlt,k5.keep λhlt=>hk tb hb4 hlt⟩;have h1:=(k3.lt b hb).2;simp only[Value.ownBlock,gM]at hb;subst hb;exact hk _ hb2 h1
def kV (qf:ByteArray)(l:List Rec)(w:World)(e:Ending)(w':World):Prop:=Below w.heap.size w w'/\match zn.yG qf l with
 | some (k,c)=>e= .returned (.tuple #[.pointer none,.int .i64 k,.int .i64 c])
 | none=>∃z L,w.heap.size<=z/\zL l L/\e= .returned (.tuple #[.pointer (some ⟨z,0,none⟩),.int .i64 0,.int .i64 0])/\XX w' w.heap.size z qf L
theorem kV.bad {qf:ByteArray}{l:List Rec}{w w':World}{k c:Int}(h:zn.yG qf l=some (k,c))(hB:Below w.heap.size w w'):kV qf l w (.returned (.tuple #[.pointer none,.int .i64 k,.int .i64 c])) w':=by
 unfold kV;rw[h];exact⟨hB,rfl⟩
def RZoneB (w:World)(lo z:Nat)(qf:ByteArray)(L:List Rec):Prop:=
 lo<=z/\∃g cap,lo<=g/\w.heap[z]? =some (.cells #[.string qf,.slice (some ⟨g,0,none⟩) L.length cap] 58 (0,0))/\ql w (.slice (some ⟨g,0,none⟩) L.length cap) L
theorem RZoneB.keep {w w':World}{lo z:Nat}{qf:ByteArray}{L:List Rec}(h:RZoneB w lo z qf L)(hs:w.heap.size<=w'.heap.size)(hk:∀b,lo<=b->b<w.heap.size->w'.heap[b]? =w.heap[b]?):uQ w' z qf L:=by
 obtain⟨hz,g,cap,hg,h1,a,c,hv,hc,hr⟩:=h;refine⟨g,cap,(hk z hz (qA h1)).trans h1,a,c,hv,hc,λk hkk=>?_⟩;obtain⟨b,off,ha,hbl,hra⟩:=hr k hkk;have hbg:b=g:=by
  simp only[gL]at hv;have h:=hv.1.trans ha;simp only[gM,Addr.mk.injEq]at h;exact h.1.symm
 exact⟨b,off,ha,gN hbl hs,hra.keep (hk b (by omega) hbl)⟩
def xZ (qf:ByteArray)(l:List Rec)(w:World)(e:Ending)(w':World):Prop:=Below w.heap.size w w'/\match zn.yG qf l with
 | some (k,c)=>e= .returned (.tuple #[.pointer none,.int .i64 k,.int .i64 c])
 | none=>∃z L,zL l L/\e= .returned (.tuple #[.pointer (some ⟨z,0,none⟩),.int .i64 0,.int .i64 0])/\RZoneB w' w.heap.size z qf L
theorem xZ.bad {qf:ByteArray}{l:List Rec}{w w':World}{k c:Int}(h:zn.yG qf l=some (k,c))(hB:Below w.heap.size w w'):xZ qf l w (.returned (.tuple #[.pointer none,.int .i64 k,.int .i64 c])) w':=by
 refine⟨hB,?_⟩;rw[h]
theorem xZ.good {qf:ByteArray}{l L:List Rec}{w w':World}{z:Nat}(h:zn.yG qf l=none)(hB:Below w.heap.size w w')(hs:zL l L)(hz:RZoneB w' w.heap.size z qf L):xZ qf l w (.returned (.tuple #[.pointer (some ⟨z,0,none⟩),.int .i64 0,.int .i64 0])) w':=by
 refine⟨hB,?_⟩;rw[h];exact⟨z,L,hs,rfl,hz⟩
theorem new_anyB (qf:ByteArray)(l:List Rec)(hok:∀r∈l,(Lit.int .i64 r.typ).wf=true)(rv:Value)(hf:yn rv)(w:World)(hrv:ql w rv l):
 Calls Tryz.prog 45 #[.string qf,rv] w λe w'=>kV qf l w e w':=by
 cases hap:qo qf
 ·refine(new_name qf hap rv w).mono ?_;rintro e w' ⟨rfl,hB⟩;exact kV.bad (by unfold zn.yG;rw[if_pos hap]) hB
 ·obtain⟨w1,hw1⟩:=yM (((w.alloc (.cells #[.pointer none] 43)).alloc (.cells #[.int .i64 0] 3)).alloc (.cells #[.int .i64 0] 47));obtain⟨h4,h5,h6,hB1⟩:=new_cells w w1 hw1;have hs1:w1.heap.size=w.heap.size+3:=by rw[hw1];simp
  obtain⟨a,cap,rfl,hcap,hrr⟩:=hrv;have hrv:ql w (.slice a l.length cap) l:=⟨a,cap,rfl,hcap,hrr⟩;have HAP:=qe hap;have HW1:=qe hw1;have H4:=qe h4;have H5:=qe h5;have H6:=qe h6;have HB1:=qe hB1;have HRV:=qe hrv;have HF:=qe hf;have HOK:=qe hok;clear hap hw1 h4 h5 h6 hB1 hrr hrv hf hok;have hmf:=UL;by_cases hmany:2000<l.length
  ·have hb:decide ((2000:Int)<(l.length:Int))=true:=gF (by omega);have HM:=qe hmany;clear hmany
   go_enter_defers Tryz.func45,Tryz.ntmps45
   go_wp2_with fail;rw[<- HW1.out];refine(zy _ _).mono ?_;rintro e w2 ⟨rfl,hB2⟩;rw[HAP.out,vR];have HB2:=qe hB2;clear hB2;go_wp2_with fail
   exact UI _ w.heap.size _ (-1) 20 (.pointer none) (.int .i64 0) (.int .i64 0) w2 ((HB2.out.block _ (qA H4.out)).trans H4.out) ((HB2.out.block _ (qA H5.out)).trans H5.out) ((HB2.out.block _ (qA H6.out)).trans H6.out) rfl rfl rfl
    (λw' h=>kV.bad (newE_many HAP.out HM.out) ((gm HB1.out HB2.out).trans h))
  ·have hb:decide ((2000:Int)<(l.length:Int))=false:=gp (by omega);have HM:=qe hmany;have hl:l.length<=2000:=by omega
   clear hmany
   go_enter_defers Tryz.func45,Tryz.ntmps45
   go_wp2_with fail;rw[<- HW1.out];refine(zy _ _).mono ?_;rintro e w2 ⟨rfl,hB2⟩;rw[HAP.out,vR];have hs2:w1.heap.size<=w2.heap.size:=hB2.size;have hBw2:=HB1.out.trans (hB2.mono (by omega));have h4:=(hB2.block _ (qA H4.out)).trans H4.out;have h5:=(hB2.block _ (qA H5.out)).trans H5.out;have h6:=(hB2.block _ (qA H6.out)).trans H6.out;have HB2:=qe hB2;have Zu:=qe hBw2;have G4:=qe h4;have G5:=qe h5;have G6:=qe h6;clear hB2 hBw2 h4 h5 h6;go_wp2_with fail;refine(cloneRecsA_any l (by omega) _ HF.out _ (HRV.out.below Zu.out)).mono ?_;rintro e w3 ⟨v3,rfl,hB3,hown3⟩;obtain⟨a3,cap3,rfl,hcap3⟩:=qj hown3;have hs3:w2.heap.size<=w3.heap.size:=hB3.size;have hBw3:=Zu.out.trans (hB3.mono (by omega));have h4:=(hB3.block _ (qA G4.out)).trans G4.out;have h5:=(hB3.block _ (qA G5.out)).trans G5.out;have h6:=(hB3.block _ (qA G6.out)).trans G6.out;obtain⟨oz,hoz⟩:=yM (Obj.cells #[.string qf,.slice a3 l.length cap3,.map none,.map none] 117);have c4:=λo=>(qg (zi h4 o) 0).trans (rfl:(#[Value.pointer none])[0]? =some (.pointer none));have f4:=λo=>qB (zi h4 o) 0;obtain⟨wz,hwz⟩:=yM ((w3.alloc oz).setCell ⟨w.heap.size,0,none⟩ (.pointer (some ⟨w3.heap.size,0,none⟩)));have hsz:wz.heap.size=w3.heap.size+1:=by rw[hwz];simp[World.setCell]
   have g4:wz.heap[w.heap.size]? =some (.cells #[.pointer (some ⟨w3.heap.size,0,none⟩)] 43 (0,0)):=by rw[hwz];exact qC (zi h4 oz) 0 _
   have g5:wz.heap[w.heap.size+1]? =some (.cells #[.int .i64 0] 3 (0,0)):=by rw[hwz];exact zB (zi h5 oz) (by simp) _
   have g6:wz.heap[w.heap.size+2]? =some (.cells #[.int .i64 0] 47 (0,0)):=by rw[hwz];exact zB (zi h6 oz) (by simp) _
   have hzz:kR wz w3.heap.size qf (.slice a3 l.length cap3) (.map none) (.map none):=by
    rw[hwz];have:=zB (qz (w:=w3) (o:=oz) rfl) (a:=⟨w.heap.size,0,none⟩) (by simp;omega) (.pointer (some ⟨w3.heap.size,0,none⟩));rw[hoz]at this;rw[hoz];exact this
   have hBz:Below w.heap.size w wz:=by rw[hwz];exact(hBw3.alloc (by omega) oz).setCell (gI _) _
   have hownz:wz.ownsRow w2.heap.size 80 5 (.slice a3 l.length cap3) l.length (qw l):=by
    rw[hwz];refine qm hown3 λb hb=>?_;have h1:=hown3.lt b hb;have:b≠w.heap.size:=by omega
    rw[gP _ _ _ _ this,Below.heap_alloc _ _ _ h1.2]
   rw[hoz]at hwz;have hrecz:=qF hownz;have czz:wz.cell? ⟨w.heap.size,0,none⟩=some (.pointer (some ⟨w3.heap.size,0,none⟩)):=by rw[qg g4];rfl
   have HWZ:=qe hwz;have HG4:=qe g4;have HG5:=qe g5;have HG6:=qe g6;have HZZ:=qe hzz;have HBZ:=qe hBz;have HOWNZ:=qe hownz;have HRECZ:=qe hrecz;have HCZZ:=qe czz;clear hB3 hown3 hBw3 h4 h5 h6 hoz hwz g4 g5 g6 hzz hBz hownz hrecz czz;go_wp2_with fail;rw[<- HWZ.out];clear c4 f4;refine(plain_any qf l hl w3.heap.size _ _ _ wz HZZ.out HRECZ.out).mono ?_;intro e w4 hp;obtain⟨ht,hB4⟩:=hp;have hs4:wz.heap.size<=w4.heap.size:=hB4.size;have c4:=(hB4.cell (p:=⟨w.heap.size,0,none⟩) (by show w.heap.size<_;omega)).trans HCZZ.out;have g4:=(hB4.block _ (qA HG4.out)).trans HG4.out;have g5:=(hB4.block _ (qA HG5.out)).trans HG5.out;have g6:=(hB4.block _ (qA HG6.out)).trans HG6.out;have HK4:=qe g4;have HK5:=qe g5;have HK6:=qe g6;have HB4:=qe hB4;clear g4 g5 g6 hB4;rcases hpl:zn.kz qf l with _ | ⟨k,c⟩
   ·rw[hpl]at ht;obtain rfl:e=_:=ht;have HPL:=qe hpl;clear hpl;have hpn:=plain_all HPL.out;go_wp2_with fail;have hz4:=(HB4.out.block _ (qA HZZ.out)).trans HZZ.out;have uk:=qm HOWNZ.out λb hb=>HB4.out.block b (HOWNZ.out.lt b hb).2
    have hz3:∀b,(Value.slice a3 l.length cap3).ownBlock=some b->b≠w3.heap.size:=λb hb e=>by
     subst e;exact Yq uk hb hz4
    refine(gather_any qf HAP.out l hl (λr hr=>⟨(hpn r hr).1,HOK.out r hr⟩) w3.heap.size _ _ _ w4 hz4 (λW hg=>qF (qm uk λb hb=>hg.block b (uk.lt b hb).2 (by simpa using hz3 b hb)))).mono ?_;rintro e w5 ⟨rfl,hg5,sb,tb,hsb,htb,hst,hz5,hS5,hT5⟩;have hzl:w3.heap.size<w4.heap.size:=qA hz4;have hBw5:Below w.heap.size w w5:=(HBZ.out.trans (HB4.out.mono (by omega))).grown hg5 (by omega) (λj e=>by cases e;omega);have hown5:=qm uk λb hb=>hg5.block b (uk.lt b hb).2 (by simpa using hz3 b hb);have hs5:w4.heap.size<=w5.heap.size:=hg5.size;have k4:=(hg5.block w.heap.size (by omega) (by simp;omega)).trans HK4.out;have k5:=(hg5.block (w.heap.size+1) (by omega) (by simp;omega)).trans HK5.out;have k6:=(hg5.block (w.heap.size+2) (by omega) (by simp;omega)).trans HK6.out;have c5:w5.cell? ⟨w.heap.size,0,none⟩=some (.pointer (some ⟨w3.heap.size,0,none⟩)):=by rw[qg k4];rfl
    have HOWN5:=qe hown5;have HZ5:=qe hz5;have HS5:=qe hS5;have HT5:=qe hT5;have HBW5:=qe hBw5;have HL4:=qe k4;have HL5:=qe k5;have HL6:=qe k6;have HPN:=qe hpn;clear hpn hz4 uk hz3 hg5 hz5 hS5 hT5 hBw5 hown5 k4 k5 k6 c4;go_wp2_with fail;refine(rules_any qf l hl (λr hr=>⟨(HPN.out r hr).1,HOK.out r hr⟩) w3.heap.size sb w4.heap.size _ _ w5 HZ5.out (qF HOWN5.out) HS5.out).mono ?_;intro e w6 hp;obtain⟨ht,hB6⟩:=hp;have hs6:w5.heap.size<=w6.heap.size:=hB6.size;have hBw6:=HBW5.out.trans (hB6.mono (by omega));have k4:=(hB6.block _ (qA HL4.out)).trans HL4.out;have k5:=(hB6.block _ (qA HL5.out)).trans HL5.out;have k6:=(hB6.block _ (qA HL6.out)).trans HL6.out;have hz6:=(hB6.block _ (qA HZ5.out)).trans HZ5.out;have hown6:=qm HOWN5.out λb hb=>hB6.block b (HOWN5.out.lt b hb).2;have hS6:=HS5.out.below hB6;have hT6:=HT5.out.below hB6;have c6:w6.cell? ⟨w.heap.size,0,none⟩=some (.pointer (some ⟨w3.heap.size,0,none⟩)):=by rw[qg k4];rfl
    have z6:w6.cell? ⟨w3.heap.size,1,none⟩=some (.slice a3 l.length cap3):=by rw[qg hz6];rfl
    have HM4:=qe k4;have HM5:=qe k5;have HM6:=qe k6;have HBW6:=qe hBw6;have HZ6:=qe hz6;have HOWN6:=qe hown6;have HS6:=qe hS6;have HT6:=qe hT6;clear k4 k5 k6 hBw6 hz6 hown6 hS6 hT6 hB6 c5;rcases hru:zn.zS qf l with _ | ⟨k,c⟩
    ·rw[hru]at ht;obtain rfl:e=_:=ht;have HRU:=qe hru;clear hru;have hpos:=rules_pos HRU.out;obtain⟨g3,cap4,hv,hg30,hg31⟩:=HOWN6.out.form hpos;simp only[gL,true_and]at hv;obtain⟨rfl,rfl⟩:=hv;have HRB:=qe hg30;go_wp2_with fail;refine(Uu l hl (λr hr=>(HPN.out r hr).1) _ g3 cap3 w6 HOWN6.out).mono ?_;rintro e w7 ⟨rfl,hg7,L,hL,hown7⟩;have hn:zn.jN l:=λr hr=>(HPN.out r hr).1;have hu:zn.Uniq l:=zn.uniq_of (zn.Qv (zn.ZC HRU.out));have hLl:L.length=l.length:=hL.1.length_eq;have hs7:w6.heap.size<=w7.heap.size:=hg7.size;have hg3:w2.heap.size<=g3/\g3<w3.heap.size+1:=by
      have h1:=HOWNZ.out.lt g3 rfl;omega
     have hBw7:=HBW6.out.grown hg7 (by omega) (λj e=>by cases e;omega);have hne3:g3≠w3.heap.size:=λe=>by subst e;exact Yq HOWN6.out rfl HZ6.out
     have hz7:=(hg7.block _ (qA HZ6.out) (by simpa using Ne.symm hne3)).trans HZ6.out;have k4:=(hg7.block w.heap.size (by omega) (by simp;omega)).trans HM4.out;have k5:=(hg7.block (w.heap.size+1) (by omega) (by simp;omega)).trans HM5.out;have k6:=(hg7.block (w.heap.size+2) (by omega) (by simp;omega)).trans HM6.out;have hS7:yB w7 w4.heap.size sb (zn.Qu l) (zn.qJ l):=HS6.out.keep λb hb hlt=>hg7.block b hlt (by simp;omega);have hT7:yo w7 tb (zn.U3 (qM qf).toNat l):=HT6.out.grown hg7 (by simp;omega);obtain⟨val7,hM7,hR7,hD7⟩:=hS7;have hS7:yB w7 w4.heap.size sb (zn.Qu l) (zn.qJ l):=⟨val7,hM7,hR7,hD7⟩;obtain⟨w8,hrun8,hRF8,hB8,hs8⟩:=mapF_range Tryz.underlying114 hM7;have c7:w7.cell? ⟨w.heap.size,0,none⟩=some (.pointer (some ⟨w3.heap.size,0,none⟩)):=by rw[qg k4];rfl
     have z7:w7.cell? ⟨w3.heap.size,2,none⟩=some (.map (some sb)):=by rw[qg hz7];rfl
     have HBW7:=qe hBw7;have HZ7:=qe hz7;have HN4:=qe k4;have HN5:=qe k5;have HN6:=qe k6;have HS7:=qe hS7;have HT7:=qe hT7;have HRF8:=qe hRF8;have HB8:=qe hB8;have HOWN7:=qe hown7;have HL:=qe hL;have HNN:=qe hn;have HUU:=qe hu;have HLL:=qe hLl;have HS8:=qe hs8;have hs8':w7.heap.size<w8.heap.size:=by omega
     clear hg7 hBw7 hz7 k4 k5 k6 hS7 hT7 hM7 hR7 hD7 hRF8 hB8 hown7 hL hn hu hLl hs8 c6 z6;go_wp2_with fail;clear hrun8 c7 z7
     go_loopw [] (λwr=>LoopN w8 wr w4.heap.size sb tb w7.heap.size l L val7 (qM qf).toNat) (λwr=>wr.rangeLeft sb w7.heap.size)
     case atStart=>
      exact⟨[],HRF8.out,(HS7.out.below HB8.out).congr (λκ _=>by simp),HT7.out.below HB8.out,gJ _ _⟩
     case round=>
      obtain⟨done,hRF,hS,hT,hB⟩:=hrel;have hsr:w8.heap.size<=wr.heap.size:=hB.size;have hB7r:Below w4.heap.size w7 wr:=(HB8.out.mono (by omega)).trans hB;have hzr:=(hB7r.block _ hzl).trans HZ7.out;have k4:=(hB7r.block w.heap.size (by omega)).trans HN4.out;have k5:=(hB7r.block (w.heap.size+1) (by omega)).trans HN5.out;have k6:=(hB7r.block (w.heap.size+2) (by omega)).trans HN6.out;have hBwr:Below w.heap.size w wr:=HBW7.out.trans (hB7r.mono (by omega));rcases hRF.next (P:=Tryz.prog) 0 with⟨hall,hrun⟩|⟨κ,w9,hd,hnd,hrun,hRF9,hg9,hs9,hdec,hent⟩
      ·have c4:wr.cell? ⟨w.heap.size,0,none⟩=some (.pointer (some ⟨w3.heap.size,0,none⟩)):=by rw[qg k4];rfl
       have c5:wr.cell? ⟨w.heap.size+1,0,none⟩=some (.int .i64 0):=by rw[qg k5];rfl
       have c6:wr.cell? ⟨w.heap.size+2,0,none⟩=some (.int .i64 0):=by rw[qg k6];rfl
       have f4:wr.frozen? ⟨w.heap.size,0,none⟩=false:=qB k4 0;have f5:wr.frozen? ⟨w.heap.size+1,0,none⟩=false:=qB k5 0;have f6:wr.frozen? ⟨w.heap.size+2,0,none⟩=false:=qB k6 0;have zk:=qe hall;have HS:=qe hS;have HT:=qe hT;have HZR:=qe hzr;have HBWR:=qe hBwr;have K4:=qe k4;have K5:=qe k5;have K6:=qe k6;have HB7R:=qe hB7r;clear hRF hall hS hT hzr hBwr k4 k5 k6 hB7r hB;go_wp2_with fail;obtain⟨We,hWe⟩:=yM (((wr.setCell ⟨w.heap.size,0,none⟩ (.pointer (some ⟨w3.heap.size,0,none⟩))).setCell ⟨w.heap.size+1,0,none⟩ (.int .i64 0)).setCell ⟨w.heap.size+2,0,none⟩ (.int .i64 0));have d4:We.heap[w.heap.size]? =some (.cells #[.pointer (some ⟨w3.heap.size,0,none⟩)] 43 (0,0)):=by
        rw[hWe];exact zB (zB (qC K4.out 0 _) (by simp) _) (by simp) _
       have d5:We.heap[w.heap.size+1]? =some (.cells #[.int .i64 0] 3 (0,0)):=by
        rw[hWe];exact zB (qC (zB K5.out (by simp) _) 0 _) (by simp) _
       have d6:We.heap[w.heap.size+2]? =some (.cells #[.int .i64 0] 47 (0,0)):=by
        rw[hWe];exact qC (zB (zB K6.out (by simp) _) (by simp) _) 0 _
       have Uc:∀b,b≠w.heap.size->b≠w.heap.size+1->b≠w.heap.size+2->We.heap[b]? =wr.heap[b]?:=λb n1 n2 n3=>by
        rw[hWe,gP _ _ _ _ n3,gP _ _ _ _ n2,gP _ _ _ _ n1]
       have hBe:Below w.heap.size w We:=by
        rw[hWe];exact((HBWR.out.setCell (gI _) _).setCell (Nat.le_succ _) _).setCell (by simp only;omega) _
       have hsb':=hsb;have htb':=htb;have hzone:XX We w.heap.size w3.heap.size qf L:=by
        refine⟨by omega,w4.heap.size,g3,cap3,sb,tb,l,⟨by omega,by omega,by omega,by omega⟩,HL.out.1.symm,?_,?_,?_,?_⟩
        ·rw[HLL.out];exact(Uc _ (by omega) (by omega) (by omega)).trans HZR.out
        ·rw[HLL.out];refine qK (qm HOWN7.out λb hb=>?_) (gU _);obtain rfl:g3=b:=by simpa[Value.ownBlock] using hb
         exact(Uc _ (by omega) (by omega) (by omega)).trans (HB7R.out.block _ (by omega))
        ·refine(HS.out.congr λκ hκ=>by rw[if_pos (zk.out κ hκ)]).keep λb hb _=>Uc b (by omega) (by omega) (by omega)
        ·exact HT.out.keep λ_=>Uc tb (by omega) (by omega) (by omega)
       have hpost:kV qf l w (.returned (.tuple #[.pointer (some ⟨w3.heap.size,0,none⟩),.int .i64 0,.int .i64 0])) We:=by
        unfold kV;rw[(newE_rules HAP.out HM.out HPL.out).trans HRU.out];exact⟨hBe,_,L,by omega,HL.out,rfl,hzone⟩
       rw[<- hWe];exact new_out _ w.heap.size w3.heap.size _ We (by rw[qg d4];rfl) (by rw[qg d5];rfl) (by rw[qg d6];rfl) rfl rfl rfl hpost
      ·have hs9':wr.heap.size<=w9.heap.size:=hg9.size;have hκ:JP κ:=hRF.2.1 κ hd;have hiter:=hRF.iterObj;have hrl:=hRF.lt;have hS9:=hS.grownIter hg9 hiter
       have hT9:=hT.grown hg9 (by
        obtain⟨es,c,hm⟩:=hT.Zb;obtain⟨_,_,_,_,hi⟩:=hiter
        simpa using UW hi hm (by simp))
       obtain⟨ok,hok⟩:=yM (Obj.cells #[.string κ.1,.int .i64 κ.2] 140);obtain⟨W,hW⟩:=yM ((w9.alloc ok).drew);have hB9W:Below w9.heap.size w9 W:=by rw[hW];exact((gJ _ w9).alloc (gI _) ok).drew
       have hSW:=hS9.below hB9W;have hTW:=hT9.below hB9W;have hRW:=hRF9.below hB9W;have hsW:W.heap.size=w9.heap.size+1:=by rw[hW];simp
       have hFκ:(if κ∈done then zn.qJ L κ else zn.qJ l κ)=zn.qJ l κ:=if_neg hnd;obtain⟨g,capg,hlk,hown,hbg,hgl,hgs,hupd⟩:=sets_take hSW hκ hd (by rw[hFκ];exact zn.rowsS_some hd);rw[hFκ]at hlk hown hupd;have hB8W:Below w4.heap.size w8 W:=(hB.grown hg9 (by omega) (λj e=>by cases e;omega)).trans (hB9W.mono (by omega));have hB7W:Below w4.heap.size w7 W:=(HB8.out.mono (by omega)).trans hB8W;have hzW:=(hB7W.block _ hzl).trans HZ7.out;have k4W:=(hB7W.block w.heap.size (by omega)).trans HN4.out;have e1:W.cell? ⟨w.heap.size,0,none⟩=some (.pointer (some ⟨w3.heap.size,0,none⟩)):=by rw[qg k4W];rfl
       have e2:W.cell? ⟨w3.heap.size,2,none⟩=some (.map (some sb)):=by rw[qg hzW];rfl
       have hko:W.heap[w9.heap.size]? =some (.cells #[.string κ.1,.int .i64 κ.2] 140 (0,0)):=by rw[hW,hok];exact qz (w:=w9) rfl
       have e3:W.cell? ⟨w9.heap.size,0,none⟩=some (.string κ.1):=by rw[qg hko];rfl
       have e4:W.cell? ⟨w9.heap.size,1,none⟩=some (.int .i64 κ.2):=by rw[qg hko];rfl
       have hlen:(zn.qJ l κ).length<=l.length:=List.length_filter_le _ _;obtain⟨κ1,κ2⟩:=κ;have HLK:=qe hlk;have HOWN:=qe hown;have HUPD:=qe hupd;have HE1:=qe e1;have HE2:=qe e2;have HE3:=qe e3;have HE4:=qe e4;have HW:=qe hW;have HOK2:=qe hok;have HRF9:=qe hRF9;have HRW:=qe hRW;have HTW:=qe hTW;have HDEC:=qe hdec;have HB8W:=qe hB8W;have HB9W:=qe hB9W;have HFK:=qe hFκ;have HHD:=qe hd;have HND:=qe hnd;clear hlk hown hupd e1 e2 e3 e4 hW hok hRF9 hRW hTW hdec hB8W hB9W hFκ hd hnd hRF hS hT hB hS9 hT9 hSW hg9 hko k4W hzW hB7W k4 k5 k6 hzr hBwr hB7r hiter;have HS9:=qe hs9;clear hs9;go_wp2_with fail;have ho2:Obj.cells #[.string κ1,.int .i64 κ2] 140=ok:=HOK2.out.symm;rw[ho2];clear ho2 hrun hent;refine wp_region_still_tail 6 (by kernel_rfl) (by kernel_rfl) ?_;have hws:({ heap:=(w9.alloc ok).heap,tape:=(w9.alloc ok).tape,drawn:=(w9.alloc ok).drawn+1,os:=(w9.alloc ok).os,output:=(w9.alloc ok).output}:World)=W:=HW.out.symm;rw[hws];clear hws;have e1:=HE1.out;have e2:=HE2.out;have e3:=HE3.out;have e4:=HE4.out;have hlk:=HLK.out;simp only[List.take_succ_cons,List.take_zero,List.drop_succ_cons,List.drop_zero]
       repeat still_step
       refine wpStill_nil ?_;go_wp2_with fail;have hin:∀r∈zn.qJ l (κ1,κ2),r∈l:=λr hr=>(List.mem_filter.1 hr).1;refine(Uu (zn.qJ l (κ1,κ2)) (by omega) (λr hr=>HNN.out r (hin r hr)) _ g capg W HOWN.out).mono ?_;rintro e w11 ⟨rfl,hg11,L',hL',hown11⟩;have hLe:L'=zn.qJ L (κ1,κ2):=hL'.eq (HL.out.rows (κ1,κ2)) (λr hr=>HNN.out r (hin r hr)) (HUU.out.sub hin);have hS11:=HUPD.out w11 L' hL'.1.length_eq hg11 hown11
       have hgr:g≠w7.heap.size:=λe=>by
        subst e;obtain⟨c',fz,hc⟩:=Lib.ownsRow_kind HOWN.out _ rfl;obtain⟨_,_,_,_,hi⟩:=HRW.out.iterObj;rw[hi]at hc
        cases hc
       have hgt:g≠tb:=λe=>by
        subst e;obtain⟨es,c,hm⟩:=HTW.out.Zb;exact jJ HOWN.out hm rfl
       have hRF11:=HRW.out.grown hg11 (by simpa using hgs) (by simpa using hgr);have hT11:=HTW.out.grown hg11 (by simpa using hgt);have ZQ:=HB8W.out.grown hg11 (by omega) (λj e=>by cases e;exact hbg);have hrl:w11.rangeLeft sb w7.heap.size<wr.rangeLeft sb w7.heap.size:=by
        have h1:=HRF9.out.map.lt;have h2:=HRF9.out.lt;have h3:w11.rangeLeft sb w7.heap.size=w9.rangeLeft sb w7.heap.size:=rangeLeft_keep ((hg11.block sb (by omega) (by simpa using Ne.symm hgs)).trans (HB9W.out.block sb h1)) ((hg11.block _ (by omega) (by simpa using Ne.symm hgr)).trans (HB9W.out.block _ h2));rw[h3];exact HDEC.out
       have HS11:=qe hS11;have HRF11:=qe hRF11;have HT11:=qe hT11;have JU:=qe ZQ;have HRL:=qe hrl;have HLE:=qe hLe;clear hS11 hRF11 hT11 ZQ hrl hLe hL' hown11 hg11 hin e1 e2 e3 e4 hlk;go_wp2_with fail
       go_roundw
       case rel=>
        refine⟨done ++ [(κ1,κ2)],HRF11.out,HS11.out.congr λκ' _=>?_,HT11.out,JU.out⟩;by_cases he:κ'=(κ1,κ2)
        ·subst he;simp[HLE.out]
        ·simp[he]
       case measure=>exact HRL.out
    ·rw[hru]at ht;obtain rfl:e=_:=ht;have HRU:=qe hru;clear hru;go_wp2_with fail;exact UI _ w.heap.size _ k c _ _ _ w6 HM4.out HM5.out HM6.out rfl rfl rfl (λw' h=>kV.bad ((newE_rules HAP.out HM.out HPL.out).trans HRU.out) (HBW6.out.trans h))
   ·rw[hpl]at ht;obtain rfl:e=_:=ht;have HPL:=qe hpl;clear hpl;go_wp2_with fail;exact UI _ w.heap.size _ k c _ _ _ w4 HK4.out HK5.out HK6.out rfl rfl rfl (λw' h=>kV.bad (newE_plain HAP.out HM.out HPL.out) ((HBZ.out.trans (HB4.out.mono (by omega))).trans h))
theorem rmake_anyB (qf:ByteArray)(UX:qf.size<=1099511627776)(l:List Rec)(hsz:∀r∈l,r.owner.size<=1099511627776)(v:Value)(w:World)(hrv:ql w v l):
 Calls Tryz.prog 46 #[.string qf,v] w λe w'=>xZ qf l w e w':=by
 obtain⟨a,cap,hv,hcap,_⟩:=id hrv
 cases hap:qo qf
 ·have hr:zn.yG qf l=some (-1,1):=by unfold zn.yG;rw[if_pos hap]
  have HAP:=qe hap;have HR:=qe hr;have HRV:=qe hrv;have HSZ:=qe hsz;have HV:=qe hv;clear hap hr hrv hsz hv
  go_enter Tryz.func46,Tryz.ntmps46
  go_wp2_with fail;refine(zu _ UX _).mono ?_;rintro e w2 ⟨rfl,hB2⟩;rw[HAP.out];go_wp2_with fail
  go_ret3
  exact xZ.bad HR.out hB2
 ·by_cases hl:2000<l.length
  ·have hr:zn.yG qf l=some (-1,20):=newE_many hap hl;have hl':(2000:Int)<(l.length:Int):=by omega
   subst hv;have HAP:=qe hap;have HR:=qe hr;have HRV:=qe hrv;have HSZ:=qe hsz;clear hap hr hrv hsz
   go_enter Tryz.func46,Tryz.ntmps46
   go_wp2_with fail;refine(zu _ UX _).mono ?_;rintro e w2 ⟨rfl,hB2⟩;rw[HAP.out];go_wp2_with fail
   go_ret3
   exact xZ.bad HR.out hB2
  ·have hr:=zn.chain_newE hap hl;have hl':(l.length:Int)<=2000:=by omega
   have hl2:l.length<=2000:=by omega
   subst hv;have HAP:=qe hap;have HR:=qe hr;have HRV:=qe hrv;have HSZ:=qe hsz;clear hap hr hrv hsz;clear hl
   go_enter Tryz.func46,Tryz.ntmps46
   go_wp2_with fail;refine(zu _ UX _).mono ?_;rintro e w2 ⟨rfl,hB2⟩;rw[HAP.out];obtain⟨w3,hw3⟩:=yM (w2.alloc (.cells codesC 47));have hB3:Below w2.heap.size w2 w3:=by rw[hw3];exact(gJ _ _).alloc (gI _) _
   have hcod:w3.heap[w2.heap.size]? =some (.cells codesC 47 (0,0)):=by rw[hw3];exact heap_alloc_new _ _
   have hzc:=qA hcod;have hrv3:=(HRV.out.below hB2).below hB3;have HBw3:=qe (gm hB2 hB3);have hs3:=HBw3.out.size;unfold codesC at hw3;have HW3:=qe hw3;have HCOD:=qe hcod;have HRV3:=qe hrv3;clear hw3 hcod hrv3;clear hB2 hB3;go_wp2_with fail;rw[<- HW3.out]
   go_loopw [8,9] (λrv _ wr=>∃r:Nat,2<=r/\r<=11/\rv= .int .i64 (r:Int)/\zn.yG qf l=zn.xy qf l (11-r) r/\(3<=r->zn.jN l)/\Below w3.heap.size w3 wr) (λrv _ _=>11-(intOf rv).toNat)
   case atStart=>exact⟨2,by omega,by omega,rfl,HR.out,(λh=>by omega),gJ _ _⟩
   case round=>
    obtain⟨r,hr2,hr11,rfl,hne,hnm,hB⟩:=hrel;have hsr:=hB.size;have HNE:=qe hne;have HNM:=qe hnm;have HB:=qe hB;clear hne hnm hB;by_cases h10:r<=10
    ·have h10':(r:Int)<=10:=by omega
     have hr2':(2:Int)<=(r:Int):=by omega
     go_wp2_with fail;obtain⟨wo,hwo⟩:=yM wr;subst hwo
     go_loopw [23,9] (λkv _ wi=>∃k:Nat,k<=l.length/\kv= .int .i64 (k:Int)/\(∀j,j<k->zn.QF qf l r j=false)/\Below w3.heap.size w3 wi) (λkv _ _=>l.length-(intOf kv).toNat)
     case atStart=>exact⟨0,gU _,rfl,(λj h=>by omega),HB.out⟩
     case round=>
      obtain⟨k,hk,rfl,hno,hBi⟩:=hrel;have hsi:=hBi.size;have HNO:=qe hno;have HBI:=qe hBi;clear hno hBi;by_cases hlt:k<l.length
      ·have hcall:=rbreaks_any qf HAP.out l k hlt hl2 HSZ.out r hr2 h10 (λh=>HNM.out (by omega)) _ wr (HRV3.out.below HBI.out)
       cases hb:zn.QF qf l r k
       ·have yU:∀j,j<k+1->zn.QF qf l r j=false:=λj h=>by
         rcases Nat.lt_or_ge j k with h' | h'
         ·exact HNO.out j h'
         ·obtain rfl:j=k:=by omega
          exact hb
        rw[hb]at hcall;have uu:=qe yU;have HB:=qe hb;have Vg:=qe hcall;clear yU hb hcall;go_wp2_with fail;refine Vg.out.mono ?_;rintro e w5 ⟨rfl,hB5⟩;have HB5:=qe (HBI.out.trans (hB5.mono hsi));clear hB5;go_wp2_with fail
        go_roundw
        case rel=>exact⟨k+1,by omega,by go_num,uu.out,HB5.out⟩
        case measure=>simp[intOf];omega
       ·have hres:zn.yG qf l=some ((k:Int),zn.codeR r):=by
         rw[HNE.out,show 11-r=(10-r)+1 by omega];exact zn.chain_hit hlt hb HNO.out
        rw[hb]at hcall;have HB:=qe hb;have Vg:=qe hcall;have zK:=qe hres;clear hb hcall hres;go_wp2_with fail;refine Vg.out.mono ?_;rintro e w5 ⟨rfl,hB5⟩;have HB5:=qe (HBI.out.trans (hB5.mono hsi));have hcc:=(HB5.out.cell (p:=⟨w2.heap.size,r,none⟩) hzc).trans (codes_at HCOD.out r hr2 h10);have e1:=qh hcc;have lr:(0:Int)<=(r:Int):=by omega
        have lr2:(r:Int)<11:=by omega
        clear hB5 hcc;go_wp2_with fail;refine qp (by kernel_rfl) (by kernel_rfl) ?_
        repeat (with_reducible refine Hu (λK hK=>?_);go_simp;(try simp only[undef]);first | (with_reducible refine hK _ ?_;clear hK K))
        refine Hw ?_
        (try simp only[show Value.tuple #[]=undef from rfl])
        intro W hW;have hBW:Below w5.heap.size w5 W:=by obtain⟨g,rfl⟩:=hW;exact qD _ g
        clear hW;have HBW:=qe (HBw3.out.trans ((gm HB5.out hBW).mono hs3));clear hBW e1;go_wp2_with fail
        go_ret3
        exact xZ.bad zK.out HBW.out
      ·obtain rfl:k=l.length:=by omega
       have hst:zn.yG qf l=if r=5/\zn.hasB l qf 6=false then some (-1,15) else if r=6/\zn.hasB l qf 2=false then some (-1,16) else zn.xy qf l (11-(r+1)) (r+1):=by
        rw[HNE.out,show 11-r=(11-(r+1))+1 by omega];exact zn.chain_miss HNO.out
       have hnm2:3<=r+1->zn.jN l:=λh=>by
        by_cases h3:3<=r
        ·exact HNM.out h3
        ·obtain rfl:r=2:=by omega
         intro x hx;obtain⟨j,hj,rfl⟩:=List.getElem_of_mem hx;have:=HNO.out j hj;have h2:zn.atB l zn.jT j=false:=this;rw[zn.uP hj]at h2;unfold zn.jT at h2
         cases hh:qo l[j].owner
         ·rw[hh]at h2;simp at h2
         ·rfl
       have hhas:=λn hn t=>rhas_any l (by omega) HSZ.out n hn t _ wr (HRV3.out.below HBI.out);have HNM2:=qe hnm2;have HHAS:=qe hhas;clear hnm2 hhas;by_cases h5:r=5
       ·have b5:((r:Int) == 5)=true:=by rw[Hz];omega
        have b6:((r:Int) == 6)=false:=by rw[gG];omega
        cases hh:zn.hasB l qf 6
        ·have hres:zn.yG qf l=some (-1,15):=by rw[hst,if_pos ⟨h5,hh⟩]
         have H5:=qe h5;have HH:=qe hh;have zK:=qe hres;clear h5 hh hres;clear hst;go_wp2_with fail;refine(HHAS.out qf UX 6).mono ?_;rintro e w5 ⟨rfl,hB5⟩;rw[HH.out];have HB5:=qe (HBw3.out.trans ((HBI.out.trans (hB5.mono hsi)).mono hs3));clear hB5;go_wp2_with fail
         go_ret3
         exact xZ.bad zK.out HB5.out
        ·have hres:zn.yG qf l=zn.xy qf l (11-(r+1)) (r+1):=by rw[hst,if_neg (λh=>by rw[hh]at h;exact absurd h.2 (by simp)),if_neg (λh=>by omega)]
         have H5:=qe h5;have HH:=qe hh;have zK:=qe hres;clear h5 hh hres;clear hst;go_wp2_with fail;refine(HHAS.out qf UX 6).mono ?_;rintro e w5 ⟨rfl,hB5⟩;rw[HH.out];have HB5:=qe (HBI.out.trans (hB5.mono hsi));clear hB5;go_wp2_with fail
         go_roundw
         case rel=>exact⟨r+1,by omega,by omega,by go_num,zK.out,HNM2.out,HB5.out⟩
         case measure=>simp[intOf];omega
       ·have b5:((r:Int) == 5)=false:=by rw[gG];omega
        rw[if_neg (λh=>h5 h.1)]at hst;by_cases h6:r=6
        ·have b6:((r:Int) == 6)=true:=by rw[Hz];omega
         cases hh:zn.hasB l qf 2
         ·have hres:zn.yG qf l=some (-1,16):=by rw[hst,if_pos ⟨h6,hh⟩]
          have H5:=qe h5;have H6:=qe h6;have HH:=qe hh;have zK:=qe hres;clear h5 h6 hh hres;clear hst;go_wp2_with fail;refine(HHAS.out qf UX 2).mono ?_;rintro e w5 ⟨rfl,hB5⟩;rw[HH.out];have HB5:=qe (HBw3.out.trans ((HBI.out.trans (hB5.mono hsi)).mono hs3));clear hB5;go_wp2_with fail
          go_ret3
          exact xZ.bad zK.out HB5.out
         ·have hres:zn.yG qf l=zn.xy qf l (11-(r+1)) (r+1):=by rw[hst,if_neg (λh=>by rw[hh]at h;exact absurd h.2 (by simp))]
          have H5:=qe h5;have H6:=qe h6;have HH:=qe hh;have zK:=qe hres;clear h5 h6 hh hres;clear hst;go_wp2_with fail;refine(HHAS.out qf UX 2).mono ?_;rintro e w5 ⟨rfl,hB5⟩;rw[HH.out];have HB5:=qe (HBI.out.trans (hB5.mono hsi));clear hB5;go_wp2_with fail
          go_roundw
          case rel=>exact⟨r+1,by omega,by omega,by go_num,zK.out,HNM2.out,HB5.out⟩
          case measure=>simp[intOf];omega
        ·have b6:((r:Int) == 6)=false:=by rw[gG];omega
         rw[if_neg (λh=>h6 h.1)]at hst;have H5:=qe h5;have H6:=qe h6;have HST:=qe hst;clear h5 h6 hst;go_wp2_with fail
         go_roundw
         case rel=>exact⟨r+1,by omega,by omega,by go_num,HST.out,HNM2.out,HBI.out⟩
         case measure=>simp[intOf];omega
    ·have h10':(10:Int)<(r:Int):=by omega
     have hres:zn.yG qf l=none:=by
      rw[HNE.out,show 11-r=0 by omega];rfl
     have hpos:0<l.length:=rules_pos (zn.Z9 hres).rules;have hs:=rsorted_any l.length l (gI _) (by omega) (HNM.out (by omega)) _ wr (Yx (HRV3.out.below HB.out) hpos) (HRV3.out.below HB.out);have zK:=qe hres;have HS:=qe hs;clear hres hs;go_wp2_with fail;refine HS.out.mono ?_;rintro e w5 ⟨v5,L,rfl,hB5,hso,hown⟩;obtain⟨g,c5,rfl⟩:∃g c5,v5= .slice (some ⟨g,0,none⟩) L.length c5:=by
      obtain⟨g,c,hv,_⟩:=hown.form (by rw[hso.1.length_eq];exact hpos);exact⟨g,c,hv⟩
     have hz5:=HB.out.trans (hB5.mono hsr);have hrec:=qF hown;have yX:Hid (xZ qf l w (.returned (.tuple #[.pointer (some ⟨w5.heap.size,0,none⟩),.int .i64 0,.int .i64 0])) (w5.alloc (.cells #[.string qf,.slice (some ⟨g,0,none⟩) L.length c5] 58))):=by
      have hA:Below w5.heap.size w5 (w5.alloc (.cells #[.string qf,.slice (some ⟨g,0,none⟩) L.length c5] 58)):=(gJ _ _).alloc (gI _) _;exact qe (xZ.good zK.out (HBw3.out.trans ((gm hz5 hA).mono hs3)) hso ⟨by have:=hz5.size;omega,g,c5,by have:=(hown.lt g rfl).1;omega,qz rfl,hrec.below hA⟩)
     clear hz5 hrec hB5 hso hown;go_wp2_with fail
     go_ret3
     exact yX.out
end Go.Proofs.YtpcmilhjpmlbpaaGreatDoor
namespace Go.Proofs.YtpcmilhjpmlbpaaGreatDoor
open Go.RowKit Go.Shelf nm od
theorem new7_any (qf:ByteArray)(l:List Rec)(hok:∀r∈l,(Lit.int .i64 r.typ).wf=true)(v:Value)(hf:yn v)(w:World)(hrv:ql w v l):
 Calls Tryz.prog 45 #[.string qf,v] w λe w'=>ZI qf l w e w':=by
 refine(new_anyB qf l hok v hf w hrv).mono λe w' h=>?_;obtain⟨hB,h⟩:=h;refine⟨hB,?_⟩
 revert h
 cases zn.yG qf l with
 | some p=>exact λh=>h
 | none=>
   rintro⟨z,L,hz,hs,he,hi⟩;exact⟨z,L,hz,hs,he,QL.new (hi.keep λ_ _ _=>rfl)⟩
theorem rmake7_any (qf:ByteArray)(UX:qf.size<=1099511627776)(l:List Rec)(hsz:∀r∈l,r.owner.size<=1099511627776)(v:Value)(w:World)(hrv:ql w v l):
 Calls Tryz.prog 46 #[.string qf,v] w λe w'=>RMake qf l w e w':=by
 refine(rmake_anyB qf UX l hsz v w hrv).mono λe w' h=>?_;obtain⟨hB,h⟩:=h;refine⟨hB,?_⟩
 revert h
 cases zn.yG qf l with
 | some p=>exact λh=>h
 | none=>
   rintro⟨z,L,hs,he,hi⟩;exact⟨z,L,hs,he,hi.keep (gI _) λ_ _ _=>rfl⟩
open Go.WideMaps
theorem zn.K8 {qf:ByteArray}{l:List Rec}{k c:Int}(h:zn.yG qf l=some (k,c)):c≠0:=by
 have hp:∀e,zn.kz qf l=some e->e.2≠0:=λe he=>by
  unfold zn.kz at he
  split at he
  ·obtain rfl:=Hr he;simp
  ·split at he
   ·obtain rfl:=Hr he;simp
   ·cases he
 have hr:∀e,zn.zS qf l=some e->e.2≠0:=λe he=>by
  unfold zn.zS at he
  split at he
  ·obtain rfl:=Hr he;simp
  ·split at he
   ·obtain rfl:=Hr he;simp
   ·split at he
    ·obtain rfl:=Hr he;simp
    ·split at he
     ·obtain rfl:=Hr he;simp
     ·split at he
      ·obtain rfl:=Hr he;simp
      ·split at he
       ·obtain rfl:=Hr he;simp
       ·split at he
        ·obtain rfl:=Hr he;simp
        ·split at he
         ·obtain rfl:=Hr he;simp
         ·cases he
 unfold zn.yG at h
 split at h
 ·have e:=Hr h;simp only[Prod.mk.injEq]at e;omega
 ·split at h
  ·have e:=Hr h;simp only[Prod.mk.injEq]at e;omega
  ·split at h
   ·rename_i e he
    obtain rfl:=Hr h;exact hp _ he
   ·exact hr _ h
abbrev kI (c:Int):Value:=.iface 105 (.agg #[.int .i64 c])
def jD (qf:ByteArray)(l:List Rec)(w:World)(e:Ending)(w':World):Prop:=Below w.heap.size w w'/\
 ((zn.yG qf l=none/\∃top z L,zL l L/\e= .returned (.tuple #[.pointer (some ⟨z,0,none⟩),.nilIface])/\jB w' top z qf L)\/∃k c,zn.yG qf l=some (k,c)/\c≠0/\e= .returned (.tuple #[.pointer none,kI c]))
theorem made_any (qf:ByteArray)(l:List Rec)(hok:∀r∈l,(Lit.int .i64 r.typ).wf=true)(v:Value)(hf:zx v)(w:World)(hrv:ql w v l):
 Calls Tryz.prog 140 #[.string qf,v] w λe w'=>jD qf l w e w':=by
 have HN:=qe (new7_any qf l hok v hf.any w hrv);obtain⟨a,cap,rfl,-⟩:=id hrv;clear hrv hf hok
 go_enter Tryz.func140,Tryz.ntmps140
 go_wp2_with fail;refine HN.out.mono ?_;intro e w1 hp;rcases hne:zn.yG qf l with _ | ⟨k0,c0⟩
 ·obtain⟨hB1,z,L,_,hs,rfl,hzf⟩:=UJ hp hne;have HF:=qe (show jD qf l w (.returned (.tuple #[.pointer (some ⟨z,0,none⟩),.nilIface])) w1 from⟨hB1,.inl ⟨hne,_,z,L,hs,rfl,hzf⟩⟩);clear hp hne hB1 hs hzf;go_wp2_with fail;go_ret2;exact HF.out
 ·obtain⟨hB1,rfl⟩:=newPost_bad hp hne;have hc:=zn.K8 hne;have d1:(c0 != 0)=true:=by rw[bne_iff_ne];exact hc
  have HF:=qe (show jD qf l w (.returned (.tuple #[.pointer none,kI c0])) w1 from⟨hB1,.inr ⟨k0,c0,hne,hc,rfl⟩⟩);clear hp hne hB1 hc;go_wp2_with fail;go_ret2;exact HF.out
def jZ (qf:ByteArray)(l:List Rec)(w:World)(e:Ending)(w':World):Prop:=Below w.heap.size w w'/\
 ((zn.yG qf l=none/\∃y L,zL l L/\e= .returned (.tuple #[.pointer (some ⟨y,0,none⟩),.int .i64 0])/\uQ w' y qf L)\/∃k c,zn.yG qf l=some (k,c)/\c≠0/\e= .returned (.tuple #[.pointer none,.int .i64 c]))
theorem U2 (qf:ByteArray)(hap:qf.size<=1099511627776)(l:List Rec)(hsz:∀r∈l,r.owner.size<=1099511627776)(v:Value)(hf:zx v)(w:World)(hrv:ql w v l):
 Calls Tryz.prog 60 #[.string qf,v] w λe w'=>jZ qf l w e w':=by
 have HN:=qe (rmake7_any qf hap l hsz v w hrv);obtain⟨a,cap,rfl,-⟩:=id hrv;clear hrv hf hap hsz
 go_enter Tryz.func60,Tryz.ntmps60
 go_wp2_with fail;refine HN.out.mono ?_;rintro e w1 ⟨hB1,hm⟩;rcases hne:zn.yG qf l with _ | ⟨k0,c0⟩
 ·rw[hne]at hm;obtain⟨y,L,hs,rfl,hy⟩:=hm;have HF:=qe (show jZ qf l w (.returned (.tuple #[.pointer (some ⟨y,0,none⟩),.int .i64 0])) w1 from⟨hB1,.inl ⟨hne,y,L,hs,rfl,hy⟩⟩);clear hne hB1 hs hy;go_wp2_with fail;go_ret2;exact HF.out
 ·rw[hne]at hm;simp only at hm;subst hm;have hc:=zn.K8 hne;have d1:(c0 != 0)=true:=by rw[bne_iff_ne];exact hc
  have HF:=qe (show jZ qf l w (.returned (.tuple #[.pointer none,.int .i64 c0])) w1 from⟨hB1,.inr ⟨k0,c0,hne,hc,rfl⟩⟩);clear hne hB1 hc;go_wp2_with fail;go_ret2;exact HF.out
end Go.Proofs.YtpcmilhjpmlbpaaGreatDoor
namespace Go.Proofs.YtpcmilhjpmlbpaaGreatDoor
open Go.RowKit Go.Shelf nm od
def Ui (w:World)(t:Nat)(zv:Value)(n:ByteArray)(s:Bool)(l:List Rec)(v:Value):Prop:=ql w v l/\t<w.heap.size/\w.cell? ⟨t,0,none⟩=some zv/\w.cell? ⟨t,1,none⟩=some (.string n)/\w.cell? ⟨t,2,none⟩=some (.bool s)/\w.cell? ⟨t,3,none⟩=some v
theorem Ui.below {w w':World}{t:Nat}{zv:Value}{n:ByteArray}{s:Bool}{l:List Rec}{v:Value}(h:Ui w t zv n s l v)(hB:Below w.heap.size w w'):Ui w' t zv n s l v:=by
 obtain⟨h1,h2,c0,c1,c2,c3⟩:=h;exact⟨h1.below hB,gN h2 hB.size,(hB.cell (p:=⟨t,_,none⟩) h2).trans c0,(hB.cell (p:=⟨t,_,none⟩) h2).trans c1,(hB.cell (p:=⟨t,_,none⟩) h2).trans c2,(hB.cell (p:=⟨t,_,none⟩) h2).trans c3⟩
def xL (o:tr.Out)(zv:Value)(w:World)(e:Ending)(w':World):Prop:=match o with
 | .err c=>c≠0/\Below w.heap.size w w'/\e= .returned (.tuple #[.pointer none,kI c])
 | .same=>Below w.heap.size w w'/\e= .returned (.tuple #[zv,.nilIface])
 | .make ap l=>jD ap l w e w'
theorem jD.from {ap:ByteArray}{l:List Rec}{w w1 w':World}{e:Ending}(hB:Below w.heap.size w w1)(h:jD ap l w1 e w'):jD ap l w e w':=⟨hB.trans (h.1.mono hB.size),h.2⟩
theorem jD.two {ap:ByteArray}{l:List Rec}{w w':World}{e:Ending}(h:jD ap l w e w'):Below w.heap.size w w'/\∃r1 r2,e= .returned (.tuple #[r1,r2])/\jD ap l w (.returned (.tuple #[r1,r2])) w':=by
 refine⟨h.1,?_⟩;rcases h with⟨hB,⟨h1,t,z,L,hs,rfl,hz⟩|⟨k,c,h1,h2,rfl⟩⟩
 ·exact⟨_,_,rfl,hB,.inl ⟨h1,t,z,L,hs,rfl,hz⟩⟩
 ·exact⟨_,_,rfl,hB,.inr ⟨k,c,h1,h2,rfl⟩⟩
theorem xL.from {o:tr.Out}{zv:Value}{w w1 w':World}{e:Ending}(hB:Below w.heap.size w w1)(h:xL o zv w1 e w'):xL o zv w e w':=by
 cases o with
 | err c=>exact⟨h.1,hB.trans (h.2.1.mono hB.size),h.2.2⟩
 | same=>exact⟨hB.trans (h.1.mono hB.size),h.2⟩
 | make ap l=>exact jD.from hB h
theorem UU {l:List Rec}{x:Rec}(h:x∈l):∃k:Nat,∃hk:k<l.length,l[k]=x/\tr.xx l x=(k:Int)/\l.erase x=l.take k ++ l.drop (k+1):=by
 unfold tr.xx df.idx
 cases e:l.findIdx? (λy=>decide (x=y)) with
 | none=>
   have:=List.findIdx?_eq_none_iff.1 e x h;simp at this
 | some k=>
   obtain⟨hk,h1,h2⟩:=List.findIdx?_eq_some_iff_getElem.1 e;have hx:l[k]=x:=(of_decide_eq_true h1).symm;refine⟨k,hk,hx,rfl,?_⟩
   have hn:x∉l.take k:=λhm=>by
    obtain⟨j,hj,e⟩:=List.getElem_of_mem hm;rw[List.length_take]at hj;rw[List.getElem_take]at e;have:=h2 j (by omega);rw[e]at this;simp at this
   have hs:l=l.take k ++ x :: l.drop (k+1):=by rw[<- hx,List.getElem_cons_drop,List.take_append_drop]
   have he:(l.take k ++ x :: l.drop (k+1)).erase x=l.take k ++ l.drop (k+1):=by rw[List.erase_append_right _ hn,List.erase_cons_head]
   rw[<- he];exact congrArg (λl=>l.erase x) hs
theorem all_any (t:Nat)(zv:Value)(n:ByteArray)(s:Bool)(x:Rec)(tl:List Rec)(hp:0<tl.length)(hl:(x :: tl).length<=1000000000)(hok:∀r∈x :: tl,(Lit.int .i64 r.typ).wf=true)(v:Value)(w:World)(ht:Ui w t zv n s (x :: tl) v):
 Calls Tryz.prog 91 #[.pointer (some ⟨t,0,none⟩)] w λe w'=>xL (tr.Zt n x tl) zv w e w':=by
 obtain⟨hr,htl,c0,c1,c2,c3⟩:=id ht;obtain⟨va,vc,rfl,hvc,-⟩:=id hr;obtain⟨b,off,rfl⟩:=jm hr (by simp);obtain⟨hbl,r0,r1,r2,r3,r4⟩:=qH hr (j:=0) (by simp);simp only[Ho,Nat.zero_mul,Nat.add_zero]at r0 r1 r2 r3 r4;have hdr:=ZF hr (k:=1) (by simp);simp only[List.drop_one,List.tail_cons,Nat.one_mul]at hdr;obtain⟨m,hm⟩:=yM ((x :: tl).length);have hm2:m=tl.length+1:=by rw[hm];rfl
 rw[<- hm]at hdr hl hvc;have HI:=qe (show ∀X,Below w.heap.size w X->Calls Tryz.prog 141 #[.slice (some ⟨b,off+5,none⟩) (m-1) (vc-1),yf x] X λe w'=>e= .returned (.int .i64 (tr.xx tl x))/\Below X.heap.size X w' from λX hX=>
  VK tl (by omega) x _ X (hdr.below hX))
 have HT:=qe ht;have HR:=qe hr;have HM:=qe hm;have HOK:=qe hok;have zk:=qe (show ∀X,Below w.heap.size w X->Below w.heap.size w X/\X.cell? ⟨t,3,none⟩=some (.slice (some ⟨b,off,none⟩) m vc)/\X.cell? ⟨b,off,none⟩=some (.string x.owner)/\X.cell? ⟨b,off+1,none⟩=some (.int .i64 x.typ)/\X.cell? ⟨b,off+2,none⟩=some (.int .i64 x.cls)/\X.cell? ⟨b,off+3,none⟩=some (.int .i64 x.ttl)/\X.cell? ⟨b,off+4,none⟩=some (.string x.data) from λX hX=>
  ⟨hX,by rw[hm];exact(ht.below hX).2.2.2.2.2,(show Zk w b off x from⟨r0,r1,r2,r3,r4⟩).keep (hX.block b hbl)⟩)
 rw[<- hm]at c3;have e0:0<m:=by omega
 have e1:(1:Int)<=(m:Int):=by omega
 have e2:m<=vc:=hvc;have e20:1<=m:=by omega
 have e21:1<=vc:=by omega
 have e22:¬(vc=1):=by omega
 have HM2:=qe hm2;clear ht hr hm hok hdr hm2 hvc hp
 go_enter Tryz.func91,Tryz.ntmps91
 go_upto_region 1 with fail
 go_cut [4] (λs wx=>s= .int .i64 (IntKind.i64.wrap (tr.xx tl x+1))/\Below w.heap.size w wx)
 case first=>
  obtain⟨-,-,a0,a1,a2,a3,a4⟩:=zk.out w (gJ _ _)
  go_region_held3 (λX=>Below w.heap.size w X/\X.cell? ⟨t,3,none⟩=some (.slice (some ⟨b,off,none⟩) m vc)/\X.cell? ⟨b,off,none⟩=some (.string x.owner)/\X.cell? ⟨b,off+1,none⟩=some (.int .i64 x.typ)/\X.cell? ⟨b,off+2,none⟩=some (.int .i64 x.cls)/\X.cell? ⟨b,off+3,none⟩=some (.int .i64 x.ttl)/\X.cell? ⟨b,off+4,none⟩=some (.string x.data))
   (first | assumption | exact zk.out _ (gJ _ _).drew | (go_split_ands;exact zk.out _ (by assumption)))
   (first | (go_at_call 141;(with_reducible refine(HI.out _ (by go_split_ands;assumption)).mono ?_);rintro e wX ⟨rfl,hbX⟩;go_split_ands;have uX:=Below.trans (B:=w.heap.size) (a:=w) (by assumption) (hbX.mono (Below.size (by assumption)))))
  all_goals (go_wp2_with fail;go_meet;exact⟨rfl,uX⟩)
 obtain⟨rfl,hB1⟩:=hcut;obtain⟨w1,hw1⟩:=yM wc;subst hw1;obtain⟨-,c3,-⟩:=zk.out w1 hB1;have HB1:=qe hB1;have hc1:=(HT.out.below hB1).2.2.2.1;clear hB1 c0 c1 c2 r0 r1 r2 r3 r4 HI zk;by_cases hx:x∈tl
 ·obtain⟨k,hk,hkx,hki,-⟩:=UU hx;have ew:IntKind.i64.wrap (tr.xx tl x+1)=((k+1:Nat):Int):=by rw[hki];exact Hg _ (by have:=HM2.out;omega)
  rw[ew];obtain⟨k1,hk1⟩:=yM (k+1);rw[<- hk1];have e3:((k1:Int) == 0)=false:=by rw[gG];omega
  have e4:IntKind.i64.wrap ((k1:Int)+1)=((k1:Int)+1):=Hg _ (by have:=HM2.out;omega);by_cases hlt:k1+1<m
  ·have e5:((k1:Int)+1<(m:Int)):=by omega
   have HP:=qe (show tr.Zt n x tl= .err 11 from by unfold tr.Zt;rw[if_pos hx,hki,Int.toNat_natCast,if_pos (by have:=HM2.out;omega)]);clear hx hk hkx hki ew hk1 hlt;go_wp2_with fail;go_ret2;rw[HP.out];exact⟨by decide,HB1.out,rfl⟩
  ·have e5:¬((k1:Int)+1<(m:Int)):=by omega
   have HP:=qe (show tr.Zt n x tl= .make n (x :: tl.take k) from by unfold tr.Zt;rw[if_pos hx,hki,Int.toNat_natCast,if_neg (by have:=HM2.out;omega)]);have htk:ql w1 (.slice (some ⟨b,off,none⟩) k1 vc) (x :: tl.take k):=by
    have h:=vM (HR.out.below HB1.out) (k:=k1) (by simp;omega);rw[hk1,List.take_succ_cons]at h;rw[hk1];exact h
   have HMD:=qe (show ∀X,Below w1.heap.size w1 X->Calls Tryz.prog 140 #[.string n,.slice (some ⟨b,off,none⟩) k1 vc] X λe w'=>jD n (x :: tl.take k) X e w' from λX hX=>
    made_any n (x :: tl.take k) (λr hr=>HOK.out r (by
     rcases List.mem_cons.1 hr with h | h
     ·rw[h];simp
     ·exact List.mem_cons_of_mem _ (List.mem_of_mem_take h))) _ (Yx htk (by simp)) X (htk.below hX))
   have e6:(0:Int)<=(k1:Int):=by omega
   have e7:k1<=vc:=by have:=HM2.out;omega
   have hMD:=HMD.out;clear hx hk hkx hki ew hk1 hlt htk HMD;have HAL1:=qe (show ∀X,Below w1.heap.size w1 X->Below w1.heap.size w1 X/\X.cell? ⟨t,3,none⟩=some (.slice (some ⟨b,off,none⟩) m vc)/\X.cell? ⟨t,1,none⟩=some (.string n) from λX hX=>
    ⟨hX,(hX.cell (p:=⟨t,_,none⟩) (gN htl HB1.out.size)).trans c3,(hX.cell (p:=⟨t,_,none⟩) (gN htl HB1.out.size)).trans hc1⟩)
   have HMX:=qe (show ∀X,Below w1.heap.size w1 X->Calls Tryz.prog 140 #[.string n,.slice (some ⟨b,off,none⟩) k1 vc] X λe w'=>jD n (x :: tl.take k) X e w' from λX hX=>hMD X hX);go_upto_region 6 with fail
   go_region_held3 (λX=>Below w1.heap.size w1 X/\X.cell? ⟨t,3,none⟩=some (.slice (some ⟨b,off,none⟩) m vc)/\X.cell? ⟨t,1,none⟩=some (.string n))
    (first | assumption | exact HAL1.out _ (gJ _ _).drew | (go_split_ands;exact HAL1.out _ (by assumption)))
    (first | (go_at_call 140;(with_reducible refine(HMX.out _ (by go_split_ands;assumption)).mono ?_);intro e wX hpp;obtain⟨hbX,r1,r2,rfl,hpp⟩:=hpp.two;go_split_ands;have uX:=Below.trans (B:=w1.heap.size) (a:=w1) (by assumption) (hbX.mono (Below.size (by assumption)));have hbX3:=hbX))
   all_goals (go_wp2_with fail;go_ret2;rw[HP.out];exact⟨HB1.out.trans (uX.mono HB1.out.size),hpp.2⟩)
 ·have hni:tr.xx tl x= -1:=by unfold tr.xx;exact df.Qp λj hj=>gp λh=>hx (h ▸ Ht hj)
  rw[hni];have HP:=qe (show tr.Zt n x tl= .err 10 from by unfold tr.Zt;rw[if_neg hx]);have ew:IntKind.i64.wrap (-1+1)=0:=rfl;rw[ew];clear hx hni ew;go_wp2_with fail;go_ret2;rw[HP.out];exact⟨by decide,HB1.out,rfl⟩
theorem recsC_drop (l:List Rec):∀(m:Nat),(qw l).drop (m*5)=qw (l.drop m):=by
 induction l with
 | nil=>intro m;simp[qw]
 | cons a t ih=>
   intro m
   cases m with
   | zero=>rfl
   | succ m=>
     have e:qw (a :: t)= .string a.owner :: .int .i64 a.typ :: .int .i64 a.cls :: .int .i64 a.ttl :: .string a.data :: qw t:=rfl;rw[e,show(m+1)*5=m*5+1+1+1+1+1 by omega];simp only[List.drop_succ_cons];rw[ih m]
theorem recsC_cat (a b:List Rec):qw (a ++ b)=qw a ++ qw b:=by unfold qw;exact List.flatMap_append
theorem own_setRun {w:World}{base g n cap k:Nat}{l:List Rec}(h:w.ownsRow base 80 5 (.slice (some ⟨g,0,none⟩) n cap) n (qw l))(m:List Rec)(hk:k+m.length<=n):
 (w.setCells g (k*5) (qw m)).ownsRow base 80 5 (.slice (some ⟨g,0,none⟩) n cap) n (qw (l.take k ++ m ++ l.drop (k+m.length)))/\w.grownBy (w.setCells g (k*5) (qw m)) (some g):=by
 have hml:(qw l).length=n*5:=h.1;have hln:l.length=n:=by rw[zM]at hml;omega
 have hm5:(qw m).length=m.length*5:=zM m;rcases h.2 with⟨h0,_⟩|⟨g',cap',cur,hv,hb,hg,hn,hc,hz,hx⟩
 ·cases h0
 ·simp only[gL,gM,Addr.mk.injEq,and_true,true_and]at hv;obtain⟨rfl,rfl⟩:=hv;have hnc:n*5<=cap*5:=Nat.mul_le_mul_right _ hn;obtain⟨cur',h1,h2,h3,h4⟩:=Kw g 80 (qw m) (k*5) cur w hg (by rw[hm5,hz];omega);have hcl:cur.toList.length=cap*5:=by rw[Array.length_toList,hz]
  refine⟨⟨by rw[zM];simp;omega,.inr ⟨g,cap,cur',rfl,hb,h1,hn,hc,by rw[h2,hz],?_⟩⟩,h4⟩;have e1:cur.toList.take (k*5)=qw (l.take k):=by
   rw[<- recsC_take,<- hx,List.take_take,Nat.min_eq_left (by omega)]
  have e2:(cur.toList.drop (k*5+(qw m).length)).take (n*5-(k*5+m.length*5))=qw (l.drop (k+m.length)):=by
   rw[<- recsC_drop,<- hx,hm5,List.drop_take,Nat.add_mul]
  rw[h3,recsC_cat,recsC_cat,e1];rw[List.take_append,List.take_of_length_le (by rw[gK,zM,hm5,List.length_take];omega),<- e2]
  congr 2
  rw[gK,zM,hm5,List.length_take];omega
theorem erase_is (l:List Rec)(k:Nat)(hk:k<l.length):l.take k ++ l.drop (k+1) ++ l.drop (k+(l.drop (k+1)).length)=l.eraseIdx k ++ [l[l.length-1]'(by omega)]:=by
 rw[List.eraseIdx_eq_take_drop_succ]
 congr 1
 rw[He,show k+(l.length-(k+1))=l.length-1 by omega];exact(Hf (by omega)).trans (by rw[List.drop_of_length_le (by omega)])
theorem delete_any (l:List Rec)(hl:l.length<=1000000000000)(k:Nat)(hk:k<l.length)(base b cap:Nat)(w:World)(hown:w.ownsRow base 80 5 (.slice (some ⟨b,0,none⟩) l.length cap) l.length (qw l)):
 Calls Tryz.prog 139 #[.slice (some ⟨b,0,none⟩) l.length cap,.int .i64 (k:Int),.int .i64 ((k+1:Nat):Int)] w λe w'=>
  e= .returned (.slice (some ⟨b,0,none⟩) (l.length-1) cap)/\w.grownBy w' (some b)/\w'.ownsRow base 80 5 (.slice (some ⟨b,0,none⟩) (l.length-1) cap) (l.length-1) (qw (l.eraseIdx k)):=by
 obtain⟨Jz,JB,Km,Qq,QI⟩:=info_parts kT;have hcap:l.length<=cap:=by
  rcases hown.2 with⟨h0,_⟩|⟨_,_,_,hv,_,_,hn,_⟩
  ·cases h0
  ·simp only[gL,gM,Addr.mk.injEq,and_true,true_and]at hv;obtain⟨rfl,rfl⟩:=hv;exact hn
 obtain⟨n,hn⟩:=yM l.length;obtain⟨k1,hk1⟩:=yM (k+1);obtain⟨n1,hn1⟩:=yM (n-1);rw[<- hn,<- hk1];rw[<- hn]at hown hcap hl hk;have hml:(qw l).length=n*5:=hown.1;have hdl:(l.drop k1).length=n-k1:=by rw[He,hn]
 have hm5:(qw (l.drop k1)).length=(n-k1)*5:=by rw[zM,hdl]
 obtain⟨hset,hgs⟩:=own_setRun (w:=w.drew) (show w.drew.ownsRow base 80 5 (.slice (some ⟨b,0,none⟩) n cap) n (qw l) from hown) (l.drop k1) (k:=k) (by rw[hdl];omega);rw[hk1,erase_is l k (by omega),<- hk1]at hset;obtain⟨z,hz⟩:=yM (l[l.length-1]'(by omega));rw[<- hz]at hset;clear hz
 have hnews:∀(A:Addr),(k1<n->A=⟨b,k1*5,none⟩)->∀j u,(qw (l.drop k1))[j]? =some u->w.drew.cell? (A.add j)=some u:=λA hA j u hj=>by
  have hjl:j<(n-k1)*5:=by rw[<- hm5];exact(List.getElem?_eq_some_iff.1 hj).1
  rw[hA (by omega),Addr.add_lit];show w.cell? _=_;rw[hown.cellAt (k1*5+j) (by have:=Nat.mul_le_mul_right 5 (show k1<=n by omega);rw[Nat.sub_mul]at hjl;omega),<- hj,<- recsC_drop,List.getElem?_drop]
 have hspare:∀j,j<(qw (l.drop k1)).length->(w.drew.cell? ⟨b,0+k*5+j,none⟩).isSome=true/\w.drew.frozen? ⟨b,0+k*5+j,none⟩=false:=λj hj=>by
  rw[hm5]at hj;have h1:=Nat.mul_le_mul_right 5 (show k1<=n by omega);rw[Nat.sub_mul]at hj;have hlt:k*5+j<n*5:=by omega
  refine⟨?_,hown.frozenAt _⟩;show(w.cell? _).isSome=true;rw[Nat.zero_add,hown.cellAt (k*5+j) hlt,List.getElem?_eq_getElem (by rw[hml];exact hlt)];rfl
 have s1:=qe (show(qw (l.drop k1)).length=(n-k1)*5 from hm5);have s2:=qe (xe (l.drop k1));have xN:=qe hnews;have HSPARE:=qe hspare;have HSET:=qe hset;have HGS:=qe hgs;have HOWN:=qe hown;have HI:=qe JB;have HZ1:=qe Qq;have HN:=qe hn;have HK1:=qe hk1;have HN1:=qe hn1;have ne1:((k:Int) == (k1:Int))=false:=by rw[gG];omega
 have hk1':k1<=n:=by omega
 have hkk:k<k1:=by omega
 have b1:(k:Int)<=(k1:Int):=by omega
 have b2:(k1:Int)<=(n:Int):=by omega
 have b3:(n:Int)<=(cap:Int):=by omega
 have b4:(k:Int)<=(cap:Int):=by omega
 have b5:(k1:Int)<=(cap:Int):=by omega
 have b6:(0:Int)<=(k:Int):=by omega
 have b7:(0:Int)<=(k1:Int):=by omega
 clear hnews hspare hset hgs hown JB Qq Km QI hml hdl hm5 hn hk1 hn1
 go_enter Tryz.func139,Tryz.ntmps139
 go_upto_region 5 with fail;by_cases hcc:cap=k1
 ·have hc2:(k1:Int)=(cap:Int):=by omega
  have hkn:¬k1<n:=by omega
  have HKN:=qe hkn;have HCC:=qe hcc;have hcn:cap<=n:=by omega
  have s0:=qe (show(qw (l.drop k1)).length=0*5 from by have:=s1.out;omega);clear hcc hkn
  go_region_law (refine step_append_room rfl (.tmp 22) (.tmp 25) 31 rfl 80 Jz 5 Tryz.underlying31 HI.out HZ1.out b 0 k cap (by simp[Act.eval,Act.put]) ⟨b,0,none⟩ 0 0 (qw (l.drop k1)) (by simp[Act.eval,Act.put]) s0.out (xN.out _ (λh=>absurd h HKN.out)) s2.out (by omega) HSPARE.out ?_)
  obtain rfl:n1=k:=by have:=HN1.out;have:=HK1.out;have:=HCC.out;omega
  obtain⟨W1,hW1⟩:=yM (w.drew.setCells b (n1*5) (qw (l.drop k1)));have hset:=HSET.out;rw[<- hW1]at hset ⊢;obtain⟨hcl,hos,hgc⟩:=VC hset (i:=n1) (by have:=HN1.out;omega);have hgd:w.grownBy w.drew (some b):=⟨rfl,rfl,rfl,gI _,λ_ _ _=>rfl⟩;have hgw:w.grownBy (W1.setCells b (n1*5) (qw (List.replicate (n-n1) vI))) (some b):=(hgd.trans (by have h:=HGS.out;rw[<- hW1]at h;exact h)).trans hgc;have hel:(l.eraseIdx n1 ++ [z]).take n1=l.eraseIdx n1:=by
   have:(l.eraseIdx n1).length=n1:=by rw[List.length_eraseIdx,if_pos (by have:=HN.out;omega)];have:=HN1.out;have:=HN.out;omega
   exact(congrArg (λm=>(l.eraseIdx n1 ++ [z]).take m) this.symm).trans List.take_left
  rw[hel]at hos;have HW1:=qe hW1;have c1:(n1:Int)<=(n:Int):=by have:=HN1.out;omega
  have c2:(0:Int)<=(n1:Int):=by omega
  have c3:(n1:Int)<=(cap:Int):=by omega
  have c4:¬(n1:Int)=(cap:Int):=by have:=HN1.out;omega
  have c5:¬cap=n1:=by have:=HN1.out;omega
  have c6:n1<n:=by have:=HN1.out;omega
  have HOS:=qe hos;have HGW:=qe hgw;clear hset hos hgw hgc hgd hW1 hel;go_wp2_with fail;go_ret;have en:n-1=n1:=HN1.out.symm;rw[en];exact⟨rfl,HGW.out,HOS.out⟩
 ·have hc2:¬(k1:Int)=(cap:Int):=by omega
  have hc4:((k1:Int) == (cap:Int))=false:=by rw[gG];omega
  go_region_law (refine step_append_room rfl (.tmp 22) (.tmp 25) 31 rfl 80 Jz 5 Tryz.underlying31 HI.out HZ1.out b 0 k cap (by simp[Act.eval,Act.put]) ⟨b,k1*5,none⟩ (n-k1) (cap-k1) (qw (l.drop k1)) (by simp[Act.eval,Act.put]) s1.out (xN.out _ (λ_=>rfl)) s2.out (by omega) HSPARE.out ?_)
  have e:k+(n-k1)=n1:=by have:=HN1.out;have:=HK1.out;omega
  rw[e];obtain⟨W1,hW1⟩:=yM (w.drew.setCells b (k*5) (qw (l.drop k1)));have hset:=HSET.out;rw[<- hW1]at hset ⊢;obtain⟨hcl,hos,hgc⟩:=VC hset (i:=n1) (by have:=HN1.out;omega);have hgd:w.grownBy w.drew (some b):=⟨rfl,rfl,rfl,gI _,λ_ _ _=>rfl⟩;have hgw:w.grownBy (W1.setCells b (n1*5) (qw (List.replicate (n-n1) vI))) (some b):=(hgd.trans (by have h:=HGS.out;rw[<- hW1]at h;exact h)).trans hgc;have hel:(l.eraseIdx k ++ [z]).take n1=l.eraseIdx k:=by
   have:(l.eraseIdx k).length=n1:=by rw[List.length_eraseIdx,if_pos (by have:=HN.out;omega)];have:=HN1.out;have:=HN.out;omega
   exact(congrArg (λm=>(l.eraseIdx k ++ [z]).take m) this.symm).trans List.take_left
  rw[hel]at hos;have HW1:=qe hW1;have c1:(n1:Int)<=(n:Int):=by have:=HN1.out;omega
  have c2:(0:Int)<=(n1:Int):=by omega
  have c3:(n1:Int)<=(cap:Int):=by omega
  have c4:¬(n1:Int)=(cap:Int):=by have:=HN1.out;omega
  have c5:¬cap=n1:=by have:=HN1.out;omega
  have c6:n1<n:=by have:=HN1.out;omega
  have HOS:=qe hos;have HGW:=qe hgw;clear hset hos hgw hgc hgd hW1 hel e;go_wp2_with fail;go_ret;have en:n-1=n1:=HN1.out.symm;rw[en];exact⟨rfl,HGW.out,HOS.out⟩
namespace tr
theorem soa_only {z:Zn}(hv:Ok z){x:Rec}(hx:x∈z.l)(h6:x.typ=6):x=qZ z:=by
 have h1:x∈zn.qJ z.l (qy z.ap,6):=zn.kD.2 ⟨hx,(UR hv hx).1 h6⟩;rw[(yx hv).1]at h1;exact List.mem_singleton.1 h1
theorem soa_idx {z:Zn}(hv:Ok z):∃k:Nat,∃hk:k<z.l.length,df.idx (λr=>decide (r.typ=6)) z.l=(k:Int)/\z.l[k]=qZ z/\z.l.eraseIdx k=q9 z.l:=by
 have hs:=yx hv;unfold df.idx
 cases e:z.l.findIdx? (λr=>decide (r.typ=6)) with
 | none=>
   have:=List.findIdx?_eq_none_iff.1 e _ hs.2.1;rw[hs.2.2.1]at this;simp at this
 | some k=>
   obtain⟨hk,h1,h2⟩:=List.findIdx?_eq_some_iff_getElem.1 e;have hx:z.l[k]=qZ z:=soa_only hv (Ht hk) (of_decide_eq_true h1);refine⟨k,hk,rfl,hx,?_⟩;have hnd:=zn.vJ hv;have hs':z.l=z.l.take k ++ z.l[k] :: z.l.drop (k+1):=by rw[List.getElem_cons_drop,List.take_append_drop]
   have e1:(z.l.take k).filter (λr=>!decide (r.typ=6))=z.l.take k:=List.filter_eq_self.2 λy hy=>by
    obtain⟨j,hj,rfl⟩:=List.getElem_of_mem hy;rw[List.length_take]at hj;have:=h2 j (by omega);rw[List.getElem_take]
    simpa using this
   have e2:(z.l.drop (k+1)).filter (λr=>!decide (r.typ=6))=z.l.drop (k+1):=List.filter_eq_self.2 λy hy=>by
    by_cases h6:y.typ=6
    ·exfalso;have hy2:y=z.l[k]:=(soa_only hv (List.mem_of_mem_drop hy) h6).trans hx.symm;rw[hs']at hnd;have:=(List.nodup_append.1 hnd).2.1;exact(List.nodup_cons.1 this).1 (hy2 ▸ hy)
    ·simp[h6]
   have e3:q9 (z.l.take k ++ z.l[k] :: z.l.drop (k+1))=z.l.take k ++ z.l.drop (k+1):=by
    unfold q9;rw[List.filter_append,List.filter_cons,if_neg (by simp[of_decide_eq_true h1]),e1,e2]
   rw[List.eraseIdx_eq_take_drop_succ];rw[<- hs']at e3;exact e3.symm
theorem uL {Z:Zn}{x:Rec}{tl:List Rec}{c:Int}{l:List Rec}(h:jc x (qZ Z,false,q9 Z.l) tl=(c,l))(hc:c≠0):jw Z x tl= .err c:=by
 unfold jw;rw[h];exact if_neg hc
theorem X0 {Z:Zn}{x:Rec}{tl:List Rec}{l:List Rec}(h:jc x (qZ Z,false,q9 Z.l) tl=(0,l)):jw Z x tl= .make Z.ap l:=by
 unfold jw;rw[h];exact if_pos rfl
end tr
theorem XB:∀args w,(callFunc 138 args).run Tryz.prog w= .ok (.enter 138 args) w:=λ_ _=>by kernel_rfl
theorem steps1_any (r:Rec)(w:World):Calls Tryz.prog 138 #[yf r] w λe w'=>e= .returned (.bool (decide (r.typ=6)))/\Below w.heap.size w w':=by
 obtain⟨wa,hwa⟩:=yM (w.alloc (.cells (recC r).toArray 80));obtain⟨hBa,hsa,hxa⟩:=zf w wa r hwa;obtain⟨bx,hbx⟩:=yM w.heap.size;rw[<- hbx]at hxa;obtain⟨x0,x1,x2,x3,x4⟩:=id hxa;have HB:=qe hBa;have HWA:=qe hwa;have HBX:=qe hbx;clear hwa hBa hsa hbx hxa;obtain⟨t,ht⟩:=yM (decide (r.typ=6));have hb:(r.typ == 6)=t:=by rw[ht];exact Bool.beq_eq_decide_eq ..
 rw[<- ht];clear ht
 go_enter Tryz.func138,Tryz.ntmps138
 go_upto_region 1 with fail;rw[<- HWA.out,<- HBX.out];go_wp2_with fail;go_ret;exact⟨rfl,HB.out⟩
theorem Xp (l:List Rec)(hl:l.length<=1000000000)(k k1:Nat)(hk:k<l.length)(hk1:k1=k+1)(base:Nat)(v:Value)(w:World)(hown:w.ownsRow base 80 5 v l.length (qw l)):
 Calls Tryz.prog 139 #[v,.int .i64 (k:Int),.int .i64 (k1:Int)] w λe w'=>
  ∃v',e= .returned v'/\v'.ownBlock=v.ownBlock/\w.grownBy w' v.ownBlock/\w'.ownsRow base 80 5 v' (l.eraseIdx k).length (qw (l.eraseIdx k)):=by
 obtain⟨gb,cap',rfl,_,hgb⟩:=hown.form (by omega);subst hk1;refine(delete_any l (by omega) k hk base gb cap' w hown).mono ?_;rintro e w' ⟨rfl,h1,h2⟩;refine⟨_,rfl,rfl,h1,?_⟩;rw[List.length_eraseIdx,if_pos hk];exact h2
end Go.Proofs.YtpcmilhjpmlbpaaGreatDoor
