import Derived.Test.YtpcmilhjpmlbpaaGreatDoorQRefY
import Derived.Test.YtpcmilhjpmlbpaaGreatDoorQZoneP
import Derived.Test.YtpcmilhjpmlbpaaGreatDoorQCpN
set_option maxRecDepth 100000
set_option maxHeartbeats 4000000
namespace Go.Proofs.YtpcmilhjpmlbpaaGreatDoor
open Go.RowKit Go.Shelf Go.WideMaps nm od
def VG (w:World)(lo z:Nat)(qf:ByteArray)(L:List Rec):Prop:=
 lo≤z∧∃(base rg cap sb tb:Nat) (l0:List Rec),(lo≤base∧lo≤rg∧lo≤sb∧lo≤tb)∧l0.Perm L∧jK w z qf (.slice (some ⟨rg,0,none⟩) L.length cap) (.map (some sb)) (.map (some tb))∧
  w.ownsRow 0 80 5 (.slice (some ⟨rg,0,none⟩) L.length cap) L.length (qx L)∧zY w base sb (zn.vK l0) (zn.qE L)∧zW w tb (zn.JP (qG qf).toNat l0)
theorem VG.keep {w w':World}{lo z:Nat}{qf:ByteArray}{L:List Rec}(h:VG w lo z qf L)(hk:∀b,lo≤b→b<w.heap.size→w'.heap[b]? =w.heap[b]?):X7 w' z qf L:=by
 obtain⟨hz,base,rg,cap,sb,tb,l0,⟨hb1,hb2,hb3,hb4⟩,k1,k2,k3,k4,k5⟩:=h
 refine⟨base,rg,cap,sb,tb,l0,k1,(hk z hz (qo k2)).trans k2,qi k3 fun b hb=>?_,k4.keep fun b hb hlt=>hk b (by omega) hlt,k5.keep fun hlt=>hk tb hb4 hlt⟩
 have h1:=(k3.lt b hb).2
 simp only[Value.ownBlock,Option.some.injEq]at hb
 subst hb
 exact hk _ hb2 h1
def jZ (qf:ByteArray)(l:List Rec)(w:World)(e:Ending)(w':World):Prop:=Below w.heap.size w w'∧match zn.yx qf l with
 | some (k,c)=>e= .returned (.tuple #[.pointer none,.int .i64 k,.int .i64 c])
 | none=>∃z L,w.heap.size≤z∧zI l L∧e= .returned (.tuple #[.pointer (some ⟨z,0,none⟩),.int .i64 0,.int .i64 0])∧VG w' w.heap.size z qf L
theorem jZ.bad {qf:ByteArray}{l:List Rec}{w w':World}{k c:Int}(h:zn.yx qf l=some (k,c))(hB:Below w.heap.size w w'):jZ qf l w (.returned (.tuple #[.pointer none,.int .i64 k,.int .i64 c])) w':=by
 unfold jZ
 rw[h]
 exact⟨hB,rfl⟩
def RZoneB (w:World)(lo z:Nat)(qf:ByteArray)(L:List Rec):Prop:=
 lo≤z∧∃g cap,lo≤g∧w.heap[z]? =some (.cells #[.string qf,.slice (some ⟨g,0,none⟩) L.length cap] 58 (0,0))∧qz w (.slice (some ⟨g,0,none⟩) L.length cap) L
theorem RZoneB.keep {w w':World}{lo z:Nat}{qf:ByteArray}{L:List Rec}(h:RZoneB w lo z qf L)(hs:w.heap.size≤w'.heap.size)(hk:∀b,lo≤b→b<w.heap.size→w'.heap[b]? =w.heap[b]?):QQ w' z qf L:=by
 obtain⟨hz,g,cap,hg,h1,a,c,hv,hc,hr⟩:=h
 refine⟨g,cap,(hk z hz (qo h1)).trans h1,a,c,hv,hc,fun k hkk=>?_⟩
 obtain⟨b,off,ha,hbl,hra⟩:=hr k hkk
 have hbg:b=g:=by
  simp only[Value.slice.injEq]at hv
  have h:=hv.1.trans ha
  simp only[Option.some.injEq,Addr.mk.injEq]at h
  exact h.1.symm
 exact⟨b,off,ha,Nat.lt_of_lt_of_le hbl hs,hra.keep (hk b (by omega) hbl)⟩
def vX (qf:ByteArray)(l:List Rec)(w:World)(e:Ending)(w':World):Prop:=Below w.heap.size w w'∧match zn.yx qf l with
 | some (k,c)=>e= .returned (.tuple #[.pointer none,.int .i64 k,.int .i64 c])
 | none=>∃z L,zI l L∧e= .returned (.tuple #[.pointer (some ⟨z,0,none⟩),.int .i64 0,.int .i64 0])∧RZoneB w' w.heap.size z qf L
theorem vX.bad {qf:ByteArray}{l:List Rec}{w w':World}{k c:Int}(h:zn.yx qf l=some (k,c))(hB:Below w.heap.size w w'):vX qf l w (.returned (.tuple #[.pointer none,.int .i64 k,.int .i64 c])) w':=by
 refine⟨hB,?_⟩
 rw[h]
theorem vX.good {qf:ByteArray}{l L:List Rec}{w w':World}{z:Nat}(h:zn.yx qf l=none)(hB:Below w.heap.size w w')(hs:zI l L)(hz:RZoneB w' w.heap.size z qf L):vX qf l w (.returned (.tuple #[.pointer (some ⟨z,0,none⟩),.int .i64 0,.int .i64 0])) w':=by
 refine⟨hB,?_⟩
 rw[h]
 exact⟨z,L,hs,rfl,hz⟩
theorem new_anyB (qf:ByteArray)(l:List Rec)(hok:∀r∈l,(Lit.int .i64 r.typ).wf=true)(rv:Value)(hf:yU rv)(w:World)(hrv:qz w rv l):
 Calls Tryz.prog 45 #[.string qf,rv] w fun e w'=>jZ qf l w e w':=by
 cases hap:qj qf
 ·refine(new_name qf hap rv w).mono ?_
  rintro e w' ⟨rfl,hB⟩
  exact jZ.bad (by unfold zn.yx;rw[if_pos hap]) hB
 ·obtain⟨w1,hw1⟩:∃X,X=((w.alloc (.cells #[.pointer none] 43)).alloc (.cells #[.int .i64 0] 3)).alloc (.cells #[.int .i64 0] 47):=⟨_,rfl⟩
  obtain⟨h4,h5,h6,hB1⟩:=Ug w w1 hw1
  have hs1:w1.heap.size=w.heap.size+3:=by rw[hw1];simp
  obtain⟨a,cap,rfl,hcap,hrr⟩:=hrv
  have hrv:qz w (.slice a l.length cap) l:=⟨a,cap,rfl,hcap,hrr⟩
  have HAP:=Lib.hid hap;have HW1:=Lib.hid hw1;have H4:=Lib.hid h4;have H5:=Lib.hid h5;have H6:=Lib.hid h6;have HB1:=Lib.hid hB1;have HRV:=Lib.hid hrv;have HF:=Lib.hid hf;have HOK:=Lib.hid hok
  clear hap hw1 h4 h5 h6 hB1 hrr hrv hf hok
  have hmf:=ZP
  by_cases Kz:2000<l.length
  ·have hb:decide ((2000:Int)<(l.length:Int))=true:=decide_eq_true (by omega)
   have HM:=Lib.hid Kz
   clear Kz
   go_enter_defers Tryz.func45,Tryz.ntmps45
   go_wp2_with fail
   rw[← HW1.out]
   refine(zk _ _).mono ?_
   rintro e w2 ⟨rfl,hB2⟩
   rw[HAP.out,uh]
   have HB2:=Lib.hid hB2
   clear hB2
   go_wp2_with fail
   exact Qp _ w.heap.size _ (-1) 20 (.pointer none) (.int .i64 0) (.int .i64 0) w2 ((HB2.out.block _ (qo H4.out)).trans H4.out) ((HB2.out.block _ (qo H5.out)).trans H5.out) ((HB2.out.block _ (qo H6.out)).trans H6.out) rfl rfl rfl
    (fun w' h=>jZ.bad (Uh HAP.out HM.out) ((HB1.out.trans (HB2.out.mono HB1.out.size)).trans h))
  ·have hb:decide ((2000:Int)<(l.length:Int))=false:=decide_eq_false (by omega)
   have HM:=Lib.hid Kz
   have hl:l.length≤2000:=by omega
   clear Kz
   go_enter_defers Tryz.func45,Tryz.ntmps45
   go_wp2_with fail
   rw[← HW1.out]
   refine(zk _ _).mono ?_
   rintro e w2 ⟨rfl,hB2⟩
   rw[HAP.out,uh]
   have hs2:w1.heap.size≤w2.heap.size:=hB2.size
   have hBw2:=HB1.out.trans (hB2.mono (by omega))
   have h4:=(hB2.block _ (qo H4.out)).trans H4.out
   have h5:=(hB2.block _ (qo H5.out)).trans H5.out
   have h6:=(hB2.block _ (qo H6.out)).trans H6.out
   have HB2:=Lib.hid hB2;have xQ:=Lib.hid hBw2;have G4:=Lib.hid h4;have G5:=Lib.hid h5;have G6:=Lib.hid h6
   clear hB2 hBw2 h4 h5 h6
   go_wp2_with fail
   refine(XT l (by omega) _ HF.out _ (HRV.out.below xQ.out)).mono ?_
   rintro e w3 ⟨v3,rfl,hB3,hown3⟩
   obtain⟨a3,Je,rfl,hcap3⟩:=qm hown3
   have hs3:w2.heap.size≤w3.heap.size:=hB3.size
   have hBw3:=xQ.out.trans (hB3.mono (by omega))
   have h4:=(hB3.block _ (qo G4.out)).trans G4.out
   have h5:=(hB3.block _ (qo G5.out)).trans G5.out
   have h6:=(hB3.block _ (qo G6.out)).trans G6.out
   obtain⟨oz,hoz⟩:∃o,o=Obj.cells #[.string qf,.slice a3 l.length Je,.map none,.map none] 117:=⟨_,rfl⟩
   have c4:=fun o=>(qg (qP h4 o) 0).trans (rfl:(#[Value.pointer none])[0]? =some (.pointer none))
   have f4:=fun o=>qD (qP h4 o) 0
   obtain⟨wz,hwz⟩:∃X,X=(w3.alloc oz).setCell ⟨w.heap.size,0,none⟩ (.pointer (some ⟨w3.heap.size,0,none⟩)):=⟨_,rfl⟩
   have hsz:wz.heap.size=w3.heap.size+1:=by rw[hwz];simp[World.setCell]
   have g4:wz.heap[w.heap.size]? =some (.cells #[.pointer (some ⟨w3.heap.size,0,none⟩)] 43 (0,0)):=by rw[hwz];exact qy (qP h4 oz) 0 _
   have g5:wz.heap[w.heap.size+1]? =some (.cells #[.int .i64 0] 3 (0,0)):=by rw[hwz];exact qV (qP h5 oz) (by simp) _
   have g6:wz.heap[w.heap.size+2]? =some (.cells #[.int .i64 0] 47 (0,0)):=by rw[hwz];exact qV (qP h6 oz) (by simp) _
   have hzz:jK wz w3.heap.size qf (.slice a3 l.length Je) (.map none) (.map none):=by
    rw[hwz]
    have:=qV (qB (w:=w3) (o:=oz) rfl) (a:=⟨w.heap.size,0,none⟩) (by simp;omega) (.pointer (some ⟨w3.heap.size,0,none⟩))
    rw[hoz]at this
    rw[hoz]
    exact this
   have hBz:Below w.heap.size w wz:=by rw[hwz];exact(hBw3.alloc (by omega) oz).setCell (Nat.le_refl _) _
   have Xz:wz.ownsRow w2.heap.size 80 5 (.slice a3 l.length Je) l.length (qx l):=by
    rw[hwz]
    refine qi hown3 fun b hb=>?_
    have h1:=hown3.lt b hb
    have:b≠w.heap.size:=by omega
    rw[Below.heap_setCell _ _ _ _ this,Below.heap_alloc _ _ _ h1.2]
   rw[hoz]at hwz
   have hrecz:=qH Xz
   have czz:wz.cell? ⟨w.heap.size,0,none⟩=some (.pointer (some ⟨w3.heap.size,0,none⟩)):=by rw[qg g4];rfl
   have HWZ:=Lib.hid hwz;have HG4:=Lib.hid g4;have HG5:=Lib.hid g5;have HG6:=Lib.hid g6;have HZZ:=Lib.hid hzz;have HBZ:=Lib.hid hBz;have X9:=Lib.hid Xz;have HRECZ:=Lib.hid hrecz;have HCZZ:=Lib.hid czz
   clear hB3 hown3 hBw3 h4 h5 h6 hoz hwz g4 g5 g6 hzz hBz Xz hrecz czz
   go_wp2_with fail
   rw[← HWZ.out]
   clear c4 f4
   refine(plain_any qf l hl w3.heap.size _ _ _ wz HZZ.out HRECZ.out).mono ?_
   intro e w4 hp
   obtain⟨ht,hB4⟩:=hp
   have hs4:wz.heap.size≤w4.heap.size:=hB4.size
   have c4:=(hB4.cell (p:=⟨w.heap.size,0,none⟩) (by show w.heap.size<_;omega)).trans HCZZ.out
   have g4:=(hB4.block _ (qo HG4.out)).trans HG4.out
   have g5:=(hB4.block _ (qo HG5.out)).trans HG5.out
   have g6:=(hB4.block _ (qo HG6.out)).trans HG6.out
   have HK4:=Lib.hid g4;have HK5:=Lib.hid g5;have HK6:=Lib.hid g6;have HB4:=Lib.hid hB4
   clear g4 g5 g6 hB4
   rcases hpl:zn.yZ qf l with _ | ⟨k,c⟩
   ·rw[hpl]at ht
    obtain rfl:e=_:=ht
    have HPL:=Lib.hid hpl
    clear hpl
    have hpn:=plain_all HPL.out
    go_wp2_with fail
    have hz4:=(HB4.out.block _ (qo HZZ.out)).trans HZZ.out
    have ja:=qi X9.out fun b hb=>HB4.out.block b (X9.out.lt b hb).2
    have hz3:∀b,(Value.slice a3 l.length Je).ownBlock=some b→b≠w3.heap.size:=fun b hb e=>by
     subst e
     exact kY ja hb hz4
    refine(XK qf HAP.out l hl (fun r hr=>⟨(hpn r hr).1,HOK.out r hr⟩) w3.heap.size _ _ _ w4 hz4 (fun W hg=>qH (qi ja fun b hb=>hg.block b (ja.lt b hb).2 (by simpa using hz3 b hb)))).mono ?_
    rintro e w5 ⟨rfl,hg5,sb,tb,hsb,htb,hst,hz5,hS5,hT5⟩
    have hzl:w3.heap.size<w4.heap.size:=qo hz4
    have hBw5:Below w.heap.size w w5:=(HBZ.out.trans (HB4.out.mono (by omega))).grown hg5 (by omega) (fun j e=>by cases e;omega)
    have hown5:=qi ja fun b hb=>hg5.block b (ja.lt b hb).2 (by simpa using hz3 b hb)
    have hs5:w4.heap.size≤w5.heap.size:=hg5.size
    have k4:=(hg5.block w.heap.size (by omega) (by simp;omega)).trans HK4.out
    have k5:=(hg5.block (w.heap.size+1) (by omega) (by simp;omega)).trans HK5.out
    have k6:=(hg5.block (w.heap.size+2) (by omega) (by simp;omega)).trans HK6.out
    have c5:w5.cell? ⟨w.heap.size,0,none⟩=some (.pointer (some ⟨w3.heap.size,0,none⟩)):=by rw[qg k4];rfl
    have Ju:=Lib.hid hown5;have HZ5:=Lib.hid hz5;have HS5:=Lib.hid hS5;have HT5:=Lib.hid hT5;have HBW5:=Lib.hid hBw5;have HL4:=Lib.hid k4;have HL5:=Lib.hid k5;have HL6:=Lib.hid k6;have HPN:=Lib.hid hpn
    clear hpn hz4 ja hz3 hg5 hz5 hS5 hT5 hBw5 hown5 k4 k5 k6 c4
    go_wp2_with fail
    refine(rules_any qf l hl (fun r hr=>⟨(HPN.out r hr).1,HOK.out r hr⟩) w3.heap.size sb w4.heap.size _ _ w5 HZ5.out (qH Ju.out) HS5.out).mono ?_
    intro e w6 hp
    obtain⟨ht,hB6⟩:=hp
    have hs6:w5.heap.size≤w6.heap.size:=hB6.size
    have hBw6:=HBW5.out.trans (hB6.mono (by omega))
    have k4:=(hB6.block _ (qo HL4.out)).trans HL4.out
    have k5:=(hB6.block _ (qo HL5.out)).trans HL5.out
    have k6:=(hB6.block _ (qo HL6.out)).trans HL6.out
    have hz6:=(hB6.block _ (qo HZ5.out)).trans HZ5.out
    have hown6:=qi Ju.out fun b hb=>hB6.block b (Ju.out.lt b hb).2
    have hS6:=HS5.out.below hB6
    have hT6:=HT5.out.below hB6
    have c6:w6.cell? ⟨w.heap.size,0,none⟩=some (.pointer (some ⟨w3.heap.size,0,none⟩)):=by rw[qg k4];rfl
    have z6:w6.cell? ⟨w3.heap.size,1,none⟩=some (.slice a3 l.length Je):=by rw[qg hz6];rfl
    have HM4:=Lib.hid k4;have HM5:=Lib.hid k5;have HM6:=Lib.hid k6;have HBW6:=Lib.hid hBw6;have HZ6:=Lib.hid hz6;have HOWN6:=Lib.hid hown6;have HS6:=Lib.hid hS6;have HT6:=Lib.hid hT6
    clear k4 k5 k6 hBw6 hz6 hown6 hS6 hT6 hB6 c5
    rcases hru:zn.zB qf l with _ | ⟨k,c⟩
    ·rw[hru]at ht
     obtain rfl:e=_:=ht
     have HRU:=Lib.hid hru
     clear hru
     have hpos:=K3 HRU.out
     obtain⟨g3,cap4,hv,hg30,hg31⟩:=HOWN6.out.form hpos
     simp only[Value.slice.injEq,true_and]at hv
     obtain⟨rfl,rfl⟩:=hv
     have HRB:=Lib.hid hg30
     go_wp2_with fail
     refine(xV l hl (fun r hr=>(HPN.out r hr).1) _ g3 Je w6 HOWN6.out).mono ?_
     rintro e w7 ⟨rfl,hg7,L,hL,UX⟩
     have hn:zn.jy l:=fun r hr=>(HPN.out r hr).1
     have hu:zn.Uniq l:=zn.Vw (zn.uP (zn.xy HRU.out))
     have hLl:L.length=l.length:=hL.1.length_eq
     have hs7:w6.heap.size≤w7.heap.size:=hg7.size
     have hg3:w2.heap.size≤g3∧g3<w3.heap.size+1:=by
      have h1:=X9.out.lt g3 rfl
      omega
     have hBw7:=HBW6.out.grown hg7 (by omega) (fun j e=>by cases e;omega)
     have hne3:g3≠w3.heap.size:=fun e=>by subst e;exact kY HOWN6.out rfl HZ6.out
     have hz7:=(hg7.block _ (qo HZ6.out) (by simpa using Ne.symm hne3)).trans HZ6.out
     have k4:=(hg7.block w.heap.size (by omega) (by simp;omega)).trans HM4.out
     have k5:=(hg7.block (w.heap.size+1) (by omega) (by simp;omega)).trans HM5.out
     have k6:=(hg7.block (w.heap.size+2) (by omega) (by simp;omega)).trans HM6.out
     have hS7:zY w7 w4.heap.size sb (zn.vK l) (zn.qE l):=HS6.out.keep fun b hb hlt=>hg7.block b hlt (by simp;omega)
     have hT7:zW w7 tb (zn.JP (qG qf).toNat l):=HT6.out.grown hg7 (by simp;omega)
     obtain⟨val7,hM7,hR7,hD7⟩:=hS7
     have hS7:zY w7 w4.heap.size sb (zn.vK l) (zn.qE l):=⟨val7,hM7,hR7,hD7⟩
     obtain⟨w8,hrun8,hRF8,hB8,hs8⟩:=Xm Tryz.underlying114 hM7
     have c7:w7.cell? ⟨w.heap.size,0,none⟩=some (.pointer (some ⟨w3.heap.size,0,none⟩)):=by rw[qg k4];rfl
     have z7:w7.cell? ⟨w3.heap.size,2,none⟩=some (.map (some sb)):=by rw[qg hz7];rfl
     have HBW7:=Lib.hid hBw7;have HZ7:=Lib.hid hz7;have HN4:=Lib.hid k4;have HN5:=Lib.hid k5;have HN6:=Lib.hid k6;have HS7:=Lib.hid hS7;have HT7:=Lib.hid hT7;have HRF8:=Lib.hid hRF8;have HB8:=Lib.hid hB8
     have HOWN7:=Lib.hid UX;have HL:=Lib.hid hL;have HNN:=Lib.hid hn;have HUU:=Lib.hid hu;have HLL:=Lib.hid hLl;have HS8:=Lib.hid hs8
     have hs8':w7.heap.size<w8.heap.size:=by omega
     clear hg7 hBw7 hz7 k4 k5 k6 hS7 hT7 hM7 hR7 hD7 hRF8 hB8 UX hL hn hu hLl hs8 c6 z6
     go_wp2_with fail
     clear hrun8 c7 z7
     go_loopw [] (fun wr=>LoopN w8 wr w4.heap.size sb tb w7.heap.size l L val7 (qG qf).toNat) (fun wr=>wr.rangeLeft sb w7.heap.size)
     case atStart=>
      exact⟨[],HRF8.out,(HS7.out.below HB8.out).congr (fun κ _=>by simp),HT7.out.below HB8.out,Below.refl _ _⟩
     case round=>
      obtain⟨done,hRF,hS,hT,hB⟩:=hrel
      have hsr:w8.heap.size≤wr.heap.size:=hB.size
      have YB:Below w4.heap.size w7 wr:=(HB8.out.mono (by omega)).trans hB
      have hzr:=(YB.block _ hzl).trans HZ7.out
      have k4:=(YB.block w.heap.size (by omega)).trans HN4.out
      have k5:=(YB.block (w.heap.size+1) (by omega)).trans HN5.out
      have k6:=(YB.block (w.heap.size+2) (by omega)).trans HN6.out
      have hBwr:Below w.heap.size w wr:=HBW7.out.trans (YB.mono (by omega))
      rcases hRF.next (P:=Tryz.prog) 0 with⟨hall,hrun⟩|⟨κ,w9,hd,hnd,hrun,hRF9,hg9,hs9,hdec,hent⟩
      ·have c4:wr.cell? ⟨w.heap.size,0,none⟩=some (.pointer (some ⟨w3.heap.size,0,none⟩)):=by rw[qg k4];rfl
       have c5:wr.cell? ⟨w.heap.size+1,0,none⟩=some (.int .i64 0):=by rw[qg k5];rfl
       have c6:wr.cell? ⟨w.heap.size+2,0,none⟩=some (.int .i64 0):=by rw[qg k6];rfl
       have f4:wr.frozen? ⟨w.heap.size,0,none⟩=false:=qD k4 0
       have f5:wr.frozen? ⟨w.heap.size+1,0,none⟩=false:=qD k5 0
       have f6:wr.frozen? ⟨w.heap.size+2,0,none⟩=false:=qD k6 0
       have zJ:=Lib.hid hall;have HS:=Lib.hid hS;have HT:=Lib.hid hT;have HZR:=Lib.hid hzr;have HBWR:=Lib.hid hBwr;have K4:=Lib.hid k4;have K5:=Lib.hid k5;have K6:=Lib.hid k6;have HB7R:=Lib.hid YB
       clear hRF hall hS hT hzr hBwr k4 k5 k6 YB hB
       go_wp2_with fail
       obtain⟨We,hWe⟩:∃X,X=((wr.setCell ⟨w.heap.size,0,none⟩ (.pointer (some ⟨w3.heap.size,0,none⟩))).setCell ⟨w.heap.size+1,0,none⟩ (.int .i64 0)).setCell ⟨w.heap.size+2,0,none⟩ (.int .i64 0):=⟨_,rfl⟩
       have d4:We.heap[w.heap.size]? =some (.cells #[.pointer (some ⟨w3.heap.size,0,none⟩)] 43 (0,0)):=by
        rw[hWe]
        exact qV (qV (qy K4.out 0 _) (by simp) _) (by simp) _
       have d5:We.heap[w.heap.size+1]? =some (.cells #[.int .i64 0] 3 (0,0)):=by
        rw[hWe]
        exact qV (qy (qV K5.out (by simp) _) 0 _) (by simp) _
       have d6:We.heap[w.heap.size+2]? =some (.cells #[.int .i64 0] 47 (0,0)):=by
        rw[hWe]
        exact qy (qV (qV K6.out (by simp) _) (by simp) _) 0 _
       have KA:∀b,b≠w.heap.size→b≠w.heap.size+1→b≠w.heap.size+2→We.heap[b]? =wr.heap[b]?:=fun b n1 n2 n3=>by
        rw[hWe,Below.heap_setCell _ _ _ _ n3,Below.heap_setCell _ _ _ _ n2,Below.heap_setCell _ _ _ _ n1]
       have hBe:Below w.heap.size w We:=by
        rw[hWe]
        exact((HBWR.out.setCell (Nat.le_refl _) _).setCell (Nat.le_succ _) _).setCell (by simp only;omega) _
       have hsb':=hsb;have htb':=htb
       have hzone:VG We w.heap.size w3.heap.size qf L:=by
        refine⟨by omega,w4.heap.size,g3,Je,sb,tb,l,⟨by omega,by omega,by omega,by omega⟩,HL.out.1.symm,?_,?_,?_,?_⟩
        ·rw[HLL.out]
         exact(KA _ (by omega) (by omega) (by omega)).trans HZR.out
        ·rw[HLL.out]
         refine qK (qi HOWN7.out fun b hb=>?_) (Nat.zero_le _)
         obtain rfl:g3=b:=by simpa[Value.ownBlock] using hb
         exact(KA _ (by omega) (by omega) (by omega)).trans (HB7R.out.block _ (by omega))
        ·refine(HS.out.congr fun κ hκ=>by rw[if_pos (zJ.out κ hκ)]).keep fun b hb _=>KA b (by omega) (by omega) (by omega)
        ·exact HT.out.keep fun _=>KA tb (by omega) (by omega) (by omega)
       have hpost:jZ qf l w (.returned (.tuple #[.pointer (some ⟨w3.heap.size,0,none⟩),.int .i64 0,.int .i64 0])) We:=by
        unfold jZ
        rw[(ZN HAP.out HM.out HPL.out).trans HRU.out]
        exact⟨hBe,_,L,by omega,HL.out,rfl,hzone⟩
       rw[← hWe]
       exact new_out _ w.heap.size w3.heap.size _ We (by rw[qg d4];rfl) (by rw[qg d5];rfl) (by rw[qg d6];rfl) rfl rfl rfl hpost
      ·have hs9':wr.heap.size≤w9.heap.size:=hg9.size
       have hκ:Ya κ:=hRF.2.1 κ hd
       have XD:=hRF.VB
       have hrl:=hRF.lt
       have hS9:=hS.grownIter hg9 XD
       have hT9:=hT.grown hg9 (by
        obtain⟨es,c,hm⟩:=hT.vV
        obtain⟨_,_,_,_,hi⟩:=XD
        simpa using Y4 hi hm (by simp))
       obtain⟨ok,hok⟩:∃o,o=Obj.cells #[.string κ.1,.int .i64 κ.2] 140:=⟨_,rfl⟩
       obtain⟨W,hW⟩:∃X,X=(w9.alloc ok).drew:=⟨_,rfl⟩
       have Uq:Below w9.heap.size w9 W:=by rw[hW];exact((Below.refl _ w9).alloc (Nat.le_refl _) ok).drew
       have hSW:=hS9.below Uq
       have hTW:=hT9.below Uq
       have hRW:=hRF9.below Uq
       have hsW:W.heap.size=w9.heap.size+1:=by rw[hW];simp
       have hFκ:(if κ∈done then zn.qE L κ else zn.qE l κ)=zn.qE l κ:=if_neg hnd
       obtain⟨g,capg,hlk,hown,hbg,hgl,hgs,hupd⟩:=sets_take hSW hκ hd (by rw[hFκ];exact zn.JC hd)
       rw[hFκ]at hlk hown hupd
       have hB8W:Below w4.heap.size w8 W:=(hB.grown hg9 (by omega) (fun j e=>by cases e;omega)).trans (Uq.mono (by omega))
       have hB7W:Below w4.heap.size w7 W:=(HB8.out.mono (by omega)).trans hB8W
       have hzW:=(hB7W.block _ hzl).trans HZ7.out
       have k4W:=(hB7W.block w.heap.size (by omega)).trans HN4.out
       have e1:W.cell? ⟨w.heap.size,0,none⟩=some (.pointer (some ⟨w3.heap.size,0,none⟩)):=by rw[qg k4W];rfl
       have e2:W.cell? ⟨w3.heap.size,2,none⟩=some (.map (some sb)):=by rw[qg hzW];rfl
       have hko:W.heap[w9.heap.size]? =some (.cells #[.string κ.1,.int .i64 κ.2] 140 (0,0)):=by rw[hW,hok];exact qB (w:=w9) rfl
       have e3:W.cell? ⟨w9.heap.size,0,none⟩=some (.string κ.1):=by rw[qg hko];rfl
       have e4:W.cell? ⟨w9.heap.size,1,none⟩=some (.int .i64 κ.2):=by rw[qg hko];rfl
       have hlen:(zn.qE l κ).length≤l.length:=List.length_filter_le _ _
       obtain⟨κ1,κ2⟩:=κ
       have HLK:=Lib.hid hlk;have HOWN:=Lib.hid hown;have HUPD:=Lib.hid hupd;have HE1:=Lib.hid e1;have HE2:=Lib.hid e2;have HE3:=Lib.hid e3;have HE4:=Lib.hid e4;have HW:=Lib.hid hW;have HOK2:=Lib.hid hok
       have HRF9:=Lib.hid hRF9;have HRW:=Lib.hid hRW;have HTW:=Lib.hid hTW;have HDEC:=Lib.hid hdec;have HB8W:=Lib.hid hB8W;have HB9W:=Lib.hid Uq;have HFK:=Lib.hid hFκ;have HHD:=Lib.hid hd;have HND:=Lib.hid hnd
       clear hlk hown hupd e1 e2 e3 e4 hW hok hRF9 hRW hTW hdec hB8W Uq hFκ hd hnd hRF hS hT hB hS9 hT9 hSW hg9 hko k4W hzW hB7W k4 k5 k6 hzr hBwr YB XD
       have HS9:=Lib.hid hs9
       clear hs9
       go_wp2_with fail
       have ho2:Obj.cells #[.string κ1,.int .i64 κ2] 140=ok:=HOK2.out.symm
       rw[ho2]
       clear ho2 hrun hent
       refine wp_region_still_tail 6 (by kernel_rfl) (by kernel_rfl) ?_
       have hws:({ heap:=(w9.alloc ok).heap,tape:=(w9.alloc ok).tape,drawn:=(w9.alloc ok).drawn+1,os:=(w9.alloc ok).os,output:=(w9.alloc ok).output}:World)=W:=HW.out.symm
       rw[hws]
       clear hws
       have e1:=HE1.out;have e2:=HE2.out;have e3:=HE3.out;have e4:=HE4.out;have hlk:=HLK.out
       simp only[List.take_succ_cons,List.take_zero,List.drop_succ_cons,List.drop_zero]
       repeat still_step
       refine wpStill_nil ?_
       go_wp2_with fail
       have hin:∀r∈zn.qE l (κ1,κ2),r∈l:=fun r hr=>(List.mem_filter.1 hr).1
       refine(xV (zn.qE l (κ1,κ2)) (by omega) (fun r hr=>HNN.out r (hin r hr)) _ g capg W HOWN.out).mono ?_
       rintro e w11 ⟨rfl,JM,L',hL',XA⟩
       have hLe:L'=zn.qE L (κ1,κ2):=hL'.eq (HL.out.rows (κ1,κ2)) (fun r hr=>HNN.out r (hin r hr)) (HUU.out.sub hin)
       have hS11:=HUPD.out w11 L' hL'.1.length_eq JM XA
       have hgr:g≠w7.heap.size:=fun e=>by
        subst e
        obtain⟨c',fz,hc⟩:=Lib.ownsRow_kind HOWN.out _ rfl
        obtain⟨_,_,_,_,hi⟩:=HRW.out.VB
        rw[hi]at hc
        cases hc
       have hgt:g≠tb:=fun e=>by
        subst e
        obtain⟨es,c,hm⟩:=HTW.out.vV
        exact yS HOWN.out hm rfl
       have hRF11:=HRW.out.grown JM (by simpa using hgs) (by simpa using hgr)
       have hT11:=HTW.out.grown JM (by simpa using hgt)
       have YC:=HB8W.out.grown JM (by omega) (fun j e=>by cases e;exact hbg)
       have hrl:w11.rangeLeft sb w7.heap.size<wr.rangeLeft sb w7.heap.size:=by
        have h1:=HRF9.out.map.lt
        have h2:=HRF9.out.lt
        have h3:w11.rangeLeft sb w7.heap.size=w9.rangeLeft sb w7.heap.size:=Yo ((JM.block sb (by omega) (by simpa using Ne.symm hgs)).trans (HB9W.out.block sb h1)) ((JM.block _ (by omega) (by simpa using Ne.symm hgr)).trans (HB9W.out.block _ h2))
        rw[h3]
        exact HDEC.out
       have HS11:=Lib.hid hS11;have HRF11:=Lib.hid hRF11;have HT11:=Lib.hid hT11;have HB11:=Lib.hid YC;have HRL:=Lib.hid hrl;have HLE:=Lib.hid hLe
       clear hS11 hRF11 hT11 YC hrl hLe hL' XA JM hin e1 e2 e3 e4 hlk
       go_wp2_with fail
       go_roundw
       case rel=>
        refine⟨done ++ [(κ1,κ2)],HRF11.out,HS11.out.congr fun κ' _=>?_,HT11.out,HB11.out⟩
        by_cases he:κ'=(κ1,κ2)
        ·subst he
         simp[HLE.out]
        ·simp[he]
       case measure=>exact HRL.out
    ·rw[hru]at ht
     obtain rfl:e=_:=ht
     have HRU:=Lib.hid hru
     clear hru
     go_wp2_with fail
     exact Qp _ w.heap.size _ k c _ _ _ w6 HM4.out HM5.out HM6.out rfl rfl rfl (fun w' h=>jZ.bad ((ZN HAP.out HM.out HPL.out).trans HRU.out) (HBW6.out.trans h))
   ·rw[hpl]at ht
    obtain rfl:e=_:=ht
    have HPL:=Lib.hid hpl
    clear hpl
    go_wp2_with fail
    exact Qp _ w.heap.size _ k c _ _ _ w4 HK4.out HK5.out HK6.out rfl rfl rfl (fun w' h=>jZ.bad (Xh HAP.out HM.out HPL.out) ((HBZ.out.trans (HB4.out.mono (by omega))).trans h))
theorem rmake_anyB (qf:ByteArray)(Vf:qf.size≤1099511627776)(l:List Rec)(hsz:∀r∈l,r.owner.size≤1099511627776)(v:Value)(w:World)(hrv:qz w v l):
 Calls Tryz.prog 46 #[.string qf,v] w fun e w'=>vX qf l w e w':=by
 obtain⟨a,cap,hv,hcap,_⟩:=id hrv
 cases hap:qj qf
 ·have hr:zn.yx qf l=some (-1,1):=by unfold zn.yx;rw[if_pos hap]
  have HAP:=Lib.hid hap;have HR:=Lib.hid hr;have HRV:=Lib.hid hrv;have HSZ:=Lib.hid hsz;have HV:=Lib.hid hv
  clear hap hr hrv hsz hv
  go_enter Tryz.func46,Tryz.ntmps46
  go_wp2_with fail
  refine(zM _ Vf _).mono ?_
  rintro e w2 ⟨rfl,hB2⟩
  rw[HAP.out]
  go_wp2_with fail
  go_ret3
  exact vX.bad HR.out hB2
 ·by_cases hl:2000<l.length
  ·have hr:zn.yx qf l=some (-1,20):=Uh hap hl
   have hl':(2000:Int)<(l.length:Int):=by omega
   subst hv
   have HAP:=Lib.hid hap;have HR:=Lib.hid hr;have HRV:=Lib.hid hrv;have HSZ:=Lib.hid hsz
   clear hap hr hrv hsz
   go_enter Tryz.func46,Tryz.ntmps46
   go_wp2_with fail
   refine(zM _ Vf _).mono ?_
   rintro e w2 ⟨rfl,hB2⟩
   rw[HAP.out]
   go_wp2_with fail
   go_ret3
   exact vX.bad HR.out hB2
  ·have hr:=zn.chain_newE hap hl
   have hl':(l.length:Int)≤2000:=by omega
   have hl2:l.length≤2000:=by omega
   subst hv
   have HAP:=Lib.hid hap;have HR:=Lib.hid hr;have HRV:=Lib.hid hrv;have HSZ:=Lib.hid hsz
   clear hap hr hrv hsz
   clear hl
   go_enter Tryz.func46,Tryz.ntmps46
   go_wp2_with fail
   refine(zM _ Vf _).mono ?_
   rintro e w2 ⟨rfl,hB2⟩
   rw[HAP.out]
   obtain⟨w3,hw3⟩:∃W,W=w2.alloc (.cells codesC 47):=⟨_,rfl⟩
   have hB3:Below w2.heap.size w2 w3:=by rw[hw3];exact(Below.refl _ _).alloc (Nat.le_refl _) _
   have hcod:w3.heap[w2.heap.size]? =some (.cells codesC 47 (0,0)):=by rw[hw3];exact heap_alloc_new _ _
   have hzc:=qo hcod
   have hrv3:=(HRV.out.below hB2).below hB3
   have HBw3:=Lib.hid (hB2.trans (hB3.mono hB2.size))
   have hs3:=HBw3.out.size
   unfold codesC at hw3
   have HW3:=Lib.hid hw3;have HCOD:=Lib.hid hcod;have HRV3:=Lib.hid hrv3
   clear hw3 hcod hrv3
   clear hB2 hB3
   go_wp2_with fail
   rw[← HW3.out]
   go_loopw [8,9] (fun rv _ wr=>∃r:Nat,2≤r∧r≤11∧rv= .int .i64 (r:Int)∧zn.yx qf l=zn.vg qf l (11-r) r∧(3≤r→zn.jy l)∧Below w3.heap.size w3 wr) (fun rv _ _=>11-(intOf rv).toNat)
   case atStart=>exact⟨2,by omega,by omega,rfl,HR.out,(fun h=>by omega),Below.refl _ _⟩
   case round=>
    obtain⟨r,hr2,hr11,rfl,hne,hnm,hB⟩:=hrel
    have hsr:=hB.size
    have HNE:=Lib.hid hne;have HNM:=Lib.hid hnm;have HB:=Lib.hid hB
    clear hne hnm hB
    by_cases h10:r≤10
    ·have h10':(r:Int)≤10:=by omega
     have hr2':(2:Int)≤(r:Int):=by omega
     go_wp2_with fail
     obtain⟨wo,hwo⟩:∃wo:World,wo=wr:=⟨_,rfl⟩
     subst hwo
     go_loopw [23,9] (fun kv _ wi=>∃k:Nat,k≤l.length∧kv= .int .i64 (k:Int)∧(∀j,j<k→zn.xN qf l r j=false)∧Below w3.heap.size w3 wi) (fun kv _ _=>l.length-(intOf kv).toNat)
     case atStart=>exact⟨0,Nat.zero_le _,rfl,(fun j h=>by omega),HB.out⟩
     case round=>
      obtain⟨k,hk,rfl,hno,hBi⟩:=hrel
      have hsi:=hBi.size
      have HNO:=Lib.hid hno;have HBI:=Lib.hid hBi
      clear hno hBi
      by_cases hlt:k<l.length
      ·have hcall:=rbreaks_any qf HAP.out l k hlt hl2 HSZ.out r hr2 h10 (fun h=>HNM.out (by omega)) _ wr (HRV3.out.below HBI.out)
       cases hb:zn.xN qf l r k
       ·have yF:∀j,j<k+1→zn.xN qf l r j=false:=fun j h=>by
         rcases Nat.lt_or_ge j k with h' | h'
         ·exact HNO.out j h'
         ·obtain rfl:j=k:=by omega
          exact hb
        rw[hb]at hcall
        have kG:=Lib.hid yF;have HB:=Lib.hid hb;have KN:=Lib.hid hcall
        clear yF hb hcall
        go_wp2_with fail
        refine KN.out.mono ?_
        rintro e w5 ⟨rfl,hB5⟩
        have HB5:=Lib.hid (HBI.out.trans (hB5.mono hsi))
        clear hB5
        go_wp2_with fail
        go_roundw
        case rel=>exact⟨k+1,by omega,by go_num,kG.out,HB5.out⟩
        case measure=>simp[intOf];omega
       ·have hres:zn.yx qf l=some ((k:Int),zn.codeR r):=by
         rw[HNE.out,show 11-r=(10-r)+1 by omega]
         exact zn.chain_hit hlt hb HNO.out
        rw[hb]at hcall
        have HB:=Lib.hid hb;have KN:=Lib.hid hcall;have zA:=Lib.hid hres
        clear hb hcall hres
        go_wp2_with fail
        refine KN.out.mono ?_
        rintro e w5 ⟨rfl,hB5⟩
        have HB5:=Lib.hid (HBI.out.trans (hB5.mono hsi))
        have hcc:=(HB5.out.cell (p:=⟨w2.heap.size,r,none⟩) hzc).trans (codes_at HCOD.out r hr2 h10)
        have e1:=qh hcc
        have lr:(0:Int)≤(r:Int):=by omega
        have lr2:(r:Int)<11:=by omega
        clear hB5 hcc
        go_wp2_with fail
        refine ql (by kernel_rfl) (by kernel_rfl) ?_
        repeat (with_reducible refine wpQuiet_step (fun K hK=>?_);go_simp;(try simp only[undef]);first | (with_reducible refine hK _ ?_;clear hK K))
        refine wpQuiet_nil ?_
        (try simp only[show Value.tuple #[]=undef from rfl])
        intro W hW
        have hBW:Below w5.heap.size w5 W:=by obtain⟨g,rfl⟩:=hW;exact qC _ g
        clear hW
        have HBW:=Lib.hid (HBw3.out.trans ((HB5.out.trans (hBW.mono HB5.out.size)).mono hs3))
        clear hBW e1
        go_wp2_with fail
        go_ret3
        exact vX.bad zA.out HBW.out
      ·obtain rfl:k=l.length:=by omega
       have hst:zn.yx qf l=if r=5∧zn.hasB l qf 6=false then some (-1,15) else if r=6∧zn.hasB l qf 2=false then some (-1,16) else zn.vg qf l (11-(r+1)) (r+1):=by
        rw[HNE.out,show 11-r=(11-(r+1))+1 by omega]
        exact zn.chain_miss HNO.out
       have hnm2:3≤r+1→zn.jy l:=fun h=>by
        by_cases h3:3≤r
        ·exact HNM.out h3
        ·obtain rfl:r=2:=by omega
         intro x hx
         obtain⟨j,hj,rfl⟩:=List.getElem_of_mem hx
         have:=HNO.out j hj
         have h2:zn.atB l zn.jq j=false:=this
         rw[zn.uf hj]at h2
         unfold zn.jq at h2
         cases hh:qj l[j].owner
         ·rw[hh]at h2;simp at h2
         ·rfl
       have hhas:=fun n hn t=>rhas_any l (by omega) HSZ.out n hn t _ wr (HRV3.out.below HBI.out)
       have HNM2:=Lib.hid hnm2;have HHAS:=Lib.hid hhas
       clear hnm2 hhas
       by_cases h5:r=5
       ·have b5:((r:Int) == 5)=true:=by rw[beq_iff_eq];omega
        have b6:((r:Int) == 6)=false:=by rw[beq_eq_false_iff_ne];omega
        cases hh:zn.hasB l qf 6
        ·have hres:zn.yx qf l=some (-1,15):=by rw[hst,if_pos ⟨h5,hh⟩]
         have H5:=Lib.hid h5;have HH:=Lib.hid hh;have zA:=Lib.hid hres
         clear h5 hh hres
         clear hst
         go_wp2_with fail
         refine(HHAS.out qf Vf 6).mono ?_
         rintro e w5 ⟨rfl,hB5⟩
         rw[HH.out]
         have HB5:=Lib.hid (HBw3.out.trans ((HBI.out.trans (hB5.mono hsi)).mono hs3))
         clear hB5
         go_wp2_with fail
         go_ret3
         exact vX.bad zA.out HB5.out
        ·have hres:zn.yx qf l=zn.vg qf l (11-(r+1)) (r+1):=by rw[hst,if_neg (fun h=>by rw[hh]at h;exact absurd h.2 (by simp)),if_neg (fun h=>by omega)]
         have H5:=Lib.hid h5;have HH:=Lib.hid hh;have zA:=Lib.hid hres
         clear h5 hh hres
         clear hst
         go_wp2_with fail
         refine(HHAS.out qf Vf 6).mono ?_
         rintro e w5 ⟨rfl,hB5⟩
         rw[HH.out]
         have HB5:=Lib.hid (HBI.out.trans (hB5.mono hsi))
         clear hB5
         go_wp2_with fail
         go_roundw
         case rel=>exact⟨r+1,by omega,by omega,by go_num,zA.out,HNM2.out,HB5.out⟩
         case measure=>simp[intOf];omega
       ·have b5:((r:Int) == 5)=false:=by rw[beq_eq_false_iff_ne];omega
        rw[if_neg (fun h=>h5 h.1)]at hst
        by_cases h6:r=6
        ·have b6:((r:Int) == 6)=true:=by rw[beq_iff_eq];omega
         cases hh:zn.hasB l qf 2
         ·have hres:zn.yx qf l=some (-1,16):=by rw[hst,if_pos ⟨h6,hh⟩]
          have H5:=Lib.hid h5;have H6:=Lib.hid h6;have HH:=Lib.hid hh;have zA:=Lib.hid hres
          clear h5 h6 hh hres
          clear hst
          go_wp2_with fail
          refine(HHAS.out qf Vf 2).mono ?_
          rintro e w5 ⟨rfl,hB5⟩
          rw[HH.out]
          have HB5:=Lib.hid (HBw3.out.trans ((HBI.out.trans (hB5.mono hsi)).mono hs3))
          clear hB5
          go_wp2_with fail
          go_ret3
          exact vX.bad zA.out HB5.out
         ·have hres:zn.yx qf l=zn.vg qf l (11-(r+1)) (r+1):=by rw[hst,if_neg (fun h=>by rw[hh]at h;exact absurd h.2 (by simp))]
          have H5:=Lib.hid h5;have H6:=Lib.hid h6;have HH:=Lib.hid hh;have zA:=Lib.hid hres
          clear h5 h6 hh hres
          clear hst
          go_wp2_with fail
          refine(HHAS.out qf Vf 2).mono ?_
          rintro e w5 ⟨rfl,hB5⟩
          rw[HH.out]
          have HB5:=Lib.hid (HBI.out.trans (hB5.mono hsi))
          clear hB5
          go_wp2_with fail
          go_roundw
          case rel=>exact⟨r+1,by omega,by omega,by go_num,zA.out,HNM2.out,HB5.out⟩
          case measure=>simp[intOf];omega
        ·have b6:((r:Int) == 6)=false:=by rw[beq_eq_false_iff_ne];omega
         rw[if_neg (fun h=>h6 h.1)]at hst
         have H5:=Lib.hid h5;have H6:=Lib.hid h6;have HST:=Lib.hid hst
         clear h5 h6 hst
         go_wp2_with fail
         go_roundw
         case rel=>exact⟨r+1,by omega,by omega,by go_num,HST.out,HNM2.out,HBI.out⟩
         case measure=>simp[intOf];omega
    ·have h10':(10:Int)<(r:Int):=by omega
     have hres:zn.yx qf l=none:=by
      rw[HNE.out,show 11-r=0 by omega]
      rfl
     have hpos:0<l.length:=K3 (zn.Yi hres).rules
     have hs:=rsorted_any l.length l (Nat.le_refl _) (by omega) (HNM.out (by omega)) _ wr (KF (HRV3.out.below HB.out) hpos) (HRV3.out.below HB.out)
     have zA:=Lib.hid hres;have HS:=Lib.hid hs
     clear hres hs
     go_wp2_with fail
     refine HS.out.mono ?_
     rintro e w5 ⟨v5,L,rfl,hB5,hso,hown⟩
     obtain⟨g,c5,rfl⟩:∃g c5,v5= .slice (some ⟨g,0,none⟩) L.length c5:=by
      obtain⟨g,c,hv,_⟩:=hown.form (by rw[hso.1.length_eq];exact hpos)
      exact⟨g,c,hv⟩
     have hz5:=HB.out.trans (hB5.mono hsr)
     have hrec:=qH hown
     have kT:Hid (vX qf l w (.returned (.tuple #[.pointer (some ⟨w5.heap.size,0,none⟩),.int .i64 0,.int .i64 0])) (w5.alloc (.cells #[.string qf,.slice (some ⟨g,0,none⟩) L.length c5] 58))):=by
      have hA:Below w5.heap.size w5 (w5.alloc (.cells #[.string qf,.slice (some ⟨g,0,none⟩) L.length c5] 58)):=(Below.refl _ _).alloc (Nat.le_refl _) _
      exact Lib.hid (vX.good zA.out (HBw3.out.trans ((hz5.trans (hA.mono hz5.size)).mono hs3)) hso ⟨by have:=hz5.size;omega,g,c5,by have:=(hown.lt g rfl).1;omega,qB rfl,hrec.below hA⟩)
     clear hz5 hrec hB5 hso hown
     go_wp2_with fail
     go_ret3
     exact kT.out
end Go.Proofs.YtpcmilhjpmlbpaaGreatDoor
