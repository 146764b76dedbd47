import Derived.Test.YtdjjemajfphjaaaGreatQZoneM
set_option maxRecDepth 100000
set_option maxHeartbeats 4000000
namespace Go.Proofs.YtdjjemajfphjaaaGreat
open Go.RowKit Go.Shelf Go.WideMaps nm od
theorem newE_many {qf:ByteArray}{l:List Rec}(h1:ql qf=true)(h2:2000<l.length):zn.yY qf l=some (-1,20):=by
 unfold zn.yY;rw[if_neg (by rw[h1];simp),if_pos h2]
theorem newE_plain {qf:ByteArray}{l:List Rec}{e:Int×Int}(h1:ql qf=true)(h2:¬2000<l.length)(h3:zn.ug qf l=some e):zn.yY qf l=some e:=by
 unfold zn.yY;rw[if_neg (by rw[h1];simp),if_neg h2,h3]
theorem XI {qf:ByteArray}{l:List Rec}(h1:ql qf=true)(h2:¬2000<l.length)(h3:zn.ug qf l=none):zn.yY qf l=zn.yh qf l:=by
 unfold zn.yY;rw[if_neg (by rw[h1];simp),if_neg h2,h3]
theorem kT.bad {qf:ByteArray}{l:List Rec}{w w':World}{k c:Int}(h:zn.yY qf l=some (k,c))(hB:Below w.heap.size w w'):kT qf l w (.returned (.tuple #[.pointer none,.int .i64 k,.int .i64 c])) w':=by
 unfold kT
 rw[h]
 exact⟨hB,rfl⟩
theorem plain_all {qf:ByteArray}{l:List Rec}(h:zn.ug qf l=none):∀r∈l,ql r.owner=true∧zn.jV r=false∧qU r.owner qf=true:=by
 unfold zn.ug at h
 split at h
 ·cases h
 ·rename_i h1
  split at h
  ·cases h
  ·rename_i h2
   intro r hr
   obtain⟨k,hk,rfl⟩:=List.getElem_of_mem hr
   have a1:=zn.ZT h1 k hk
   have a2:=zn.ZT h2 k hk
   rw[zn.uN hk]at a1 a2
   refine⟨?_,a1,by simpa using a2⟩
   unfold zn.jV at a1
   simp only[Bool.not_eq_false',Bool.and_eq_true]at a1
   exact a1.1.1.1.1
theorem rules_pos {qf:ByteArray}{l:List Rec}(h:zn.yh qf l=none):0<l.length:=by
 cases l with
 | nil=>exact absurd h (by unfold zn.yh;simp[zn.zl,zn.xU])
 | cons r l=>simp
theorem ZI {w:World}{base n size z:Nat}{v:Value}{xs:List Value}(h:w.ownsRow base 51 size v n xs)(hb:v.ownBlock=some z){qf:ByteArray}{rv sv tv:Value}:¬kF w z qf rv sv tv:=fun hz=>by
 obtain⟨c,fz,hc⟩:=Lib.ownsRow_kind h z hb
 unfold kF at hz
 rw[hc]at hz
 simp at hz
theorem yz.grownIter {w w':World}{base sb rr:Nat}{dom:List Key}{F:Key→List Rec}(h:yz w base sb dom F)(hg:w.grownBy w' (some rr))(hr:∃a b c d,w.heap[rr]? =some (.mapIter a b c d)):yz w' base sb dom F:=by
 obtain⟨a,b,c,d,hr⟩:=hr
 obtain⟨val,h1,h2,h3⟩:=h
 refine⟨val,h1.keep fun o ho=>?_,fun κ hκ=>(h2 κ hκ).kept hg (.inr fun e=>?_),h3⟩
 ·obtain⟨es,cl,hm⟩:=h1.vS
  exact(hg.block sb (qw ho) (by simpa using K3 hm hr (by simp))).trans ho
 ·obtain⟨c',fz,hc⟩:=Lib.ownsRow_kind (h2 κ hκ) rr e
  rw[hr]at hc
  cases hc
def LoopN (w8 wr:World)(base sb tb rr:Nat)(l L:List Rec)(val:Key→Value)(c:Nat):Prop:=
 ∃done:List Key,yN xk uR wr sb rr (zn.Qk l) val done∧yz wr base sb (zn.Qk l) (fun κ=>if κ∈done then zn.qD L κ else zn.qD l κ)∧ym wr tb (zn.Zo c l)∧Below base w8 wr
theorem new_any (qf:ByteArray)(l:List Rec)(hok:∀r∈l,(Lit.int .i64 r.typ).wf=true)(rv:Value)(hf:yS rv)(w:World)(hrv:qy w rv l):
 Calls Tryz.prog 17 #[.string qf,rv] w fun e w'=>kT qf l w e w':=by
 cases hap:ql qf
 ·refine(new_name qf hap rv w).mono ?_
  rintro e w' ⟨rfl,hB⟩
  exact kT.bad (by unfold zn.yY;rw[if_pos hap]) hB
 ·obtain⟨w1,hw1⟩:∃X,X=((w.alloc (.cells #[.pointer none] 26)).alloc (.cells #[.int .i64 0] 3)).alloc (.cells #[.int .i64 0] 47):=⟨_,rfl⟩
  obtain⟨h4,h5,h6,hB1⟩:=new_cells w w1 hw1
  have hs1:w1.heap.size=w.heap.size+3:=by rw[hw1];simp
  obtain⟨a,cap,rfl,hcap,hrr⟩:=hrv
  have hrv:qy w (.slice a l.length cap) l:=⟨a,cap,rfl,hcap,hrr⟩
  have HAP:=Lib.hid hap;have HW1:=Lib.hid hw1;have H4:=Lib.hid h4;have H5:=Lib.hid h5;have H6:=Lib.hid h6;have HB1:=Lib.hid hB1;have HRV:=Lib.hid hrv;have HF:=Lib.hid hf;have HOK:=Lib.hid hok
  clear hap hw1 h4 h5 h6 hB1 hrr hrv hf hok
  have hmf:=KW
  by_cases hmany:2000<l.length
  ·have hb:decide ((2000:Int)<(l.length:Int))=true:=decide_eq_true (by omega)
   have HM:=Lib.hid hmany
   clear hmany
   go_enter_defers Tryz.func17,Tryz.ntmps17
   go_wp2_with fail
   rw[← HW1.out]
   refine(zz _ _).mono ?_
   rintro e w2 ⟨rfl,hB2⟩
   rw[HAP.out,vQ]
   have HB2:=Lib.hid hB2
   clear hB2
   go_wp2_with fail
   exact KQ _ w.heap.size _ (-1) 20 (.pointer none) (.int .i64 0) (.int .i64 0) w2 ((HB2.out.block _ (qw H4.out)).trans H4.out) ((HB2.out.block _ (qw H5.out)).trans H5.out) ((HB2.out.block _ (qw H6.out)).trans H6.out) rfl rfl rfl
    (fun w' h=>kT.bad (newE_many HAP.out HM.out) ((HB1.out.trans (HB2.out.mono HB1.out.size)).trans h))
  ·have hb:decide ((2000:Int)<(l.length:Int))=false:=decide_eq_false (by omega)
   have HM:=Lib.hid hmany
   have hl:l.length≤2000:=by omega
   clear hmany
   go_enter_defers Tryz.func17,Tryz.ntmps17
   go_wp2_with fail
   rw[← HW1.out]
   refine(zz _ _).mono ?_
   rintro e w2 ⟨rfl,hB2⟩
   rw[HAP.out,vQ]
   have hs2:w1.heap.size≤w2.heap.size:=hB2.size
   have hBw2:=HB1.out.trans (hB2.mono (by omega))
   have h4:=(hB2.block _ (qw H4.out)).trans H4.out
   have h5:=(hB2.block _ (qw H5.out)).trans H5.out
   have h6:=(hB2.block _ (qw H6.out)).trans H6.out
   have HB2:=Lib.hid hB2;have QV:=Lib.hid hBw2;have G4:=Lib.hid h4;have G5:=Lib.hid h5;have G6:=Lib.hid h6
   clear hB2 hBw2 h4 h5 h6
   go_wp2_with fail
   refine(Zp l (by omega) _ HF.out _ (HRV.out.below QV.out)).mono ?_
   rintro e w3 ⟨v3,rfl,hB3,hown3⟩
   obtain⟨a3,cap3,rfl,hcap3⟩:=qC hown3
   have hs3:w2.heap.size≤w3.heap.size:=hB3.size
   have hBw3:=QV.out.trans (hB3.mono (by omega))
   have h4:=(hB3.block _ (qw G4.out)).trans G4.out
   have h5:=(hB3.block _ (qw G5.out)).trans G5.out
   have h6:=(hB3.block _ (qw G6.out)).trans G6.out
   obtain⟨oz,hoz⟩:∃o,o=Obj.cells #[.string qf,.slice a3 l.length cap3,.map none,.map none] 94:=⟨_,rfl⟩
   have c4:=fun o=>(qg (qY h4 o) 0).trans (rfl:(#[Value.pointer none])[0]? =some (.pointer none))
   have f4:=fun o=>qE (qY h4 o) 0
   obtain⟨wz,hwz⟩:∃X,X=(w3.alloc oz).setCell ⟨w.heap.size,0,none⟩ (.pointer (some ⟨w3.heap.size,0,none⟩)):=⟨_,rfl⟩
   have hsz:wz.heap.size=w3.heap.size+1:=by rw[hwz];simp[World.setCell]
   have g4:wz.heap[w.heap.size]? =some (.cells #[.pointer (some ⟨w3.heap.size,0,none⟩)] 26 (0,0)):=by rw[hwz];exact qB (qY h4 oz) 0 _
   have g5:wz.heap[w.heap.size+1]? =some (.cells #[.int .i64 0] 3 (0,0)):=by rw[hwz];exact zC (qY h5 oz) (by simp) _
   have g6:wz.heap[w.heap.size+2]? =some (.cells #[.int .i64 0] 47 (0,0)):=by rw[hwz];exact zC (qY h6 oz) (by simp) _
   have hzz:kF wz w3.heap.size qf (.slice a3 l.length cap3) (.map none) (.map none):=by
    rw[hwz]
    have:=zC (qo (w:=w3) (o:=oz) rfl) (a:=⟨w.heap.size,0,none⟩) (by simp;omega) (.pointer (some ⟨w3.heap.size,0,none⟩))
    rw[hoz]at this
    rw[hoz]
    exact this
   have hBz:Below w.heap.size w wz:=by rw[hwz];exact(hBw3.alloc (by omega) oz).setCell (Nat.le_refl _) _
   have hownz:wz.ownsRow w2.heap.size 51 5 (.slice a3 l.length cap3) l.length (qG l):=by
    rw[hwz]
    refine qi hown3 fun b hb=>?_
    have h1:=hown3.lt b hb
    have:b≠w.heap.size:=by omega
    rw[Below.heap_setCell _ _ _ _ this,Below.heap_alloc _ _ _ h1.2]
   rw[hoz]at hwz
   have hrecz:=qO hownz
   have czz:wz.cell? ⟨w.heap.size,0,none⟩=some (.pointer (some ⟨w3.heap.size,0,none⟩)):=by rw[qg g4];rfl
   have HWZ:=Lib.hid hwz;have HG4:=Lib.hid g4;have HG5:=Lib.hid g5;have HG6:=Lib.hid g6;have HZZ:=Lib.hid hzz;have HBZ:=Lib.hid hBz;have HOWNZ:=Lib.hid hownz;have HRECZ:=Lib.hid hrecz;have HCZZ:=Lib.hid czz
   clear hB3 hown3 hBw3 h4 h5 h6 hoz hwz g4 g5 g6 hzz hBz hownz hrecz czz
   go_wp2_with fail
   rw[← HWZ.out]
   clear c4 f4
   refine(plain_any qf l hl w3.heap.size _ _ _ wz HZZ.out HRECZ.out).mono ?_
   intro e w4 hp
   obtain⟨ht,hB4⟩:=hp
   have hs4:wz.heap.size≤w4.heap.size:=hB4.size
   have c4:=(hB4.cell (p:=⟨w.heap.size,0,none⟩) (by show w.heap.size<_;omega)).trans HCZZ.out
   have g4:=(hB4.block _ (qw HG4.out)).trans HG4.out
   have g5:=(hB4.block _ (qw HG5.out)).trans HG5.out
   have g6:=(hB4.block _ (qw HG6.out)).trans HG6.out
   have HK4:=Lib.hid g4;have HK5:=Lib.hid g5;have HK6:=Lib.hid g6;have HB4:=Lib.hid hB4
   clear g4 g5 g6 hB4
   rcases hpl:zn.ug qf l with _ | ⟨k,c⟩
   ·rw[hpl]at ht
    obtain rfl:e=_:=ht
    have HPL:=Lib.hid hpl
    clear hpl
    have hpn:=plain_all HPL.out
    go_wp2_with fail
    have hz4:=(HB4.out.block _ (qw HZZ.out)).trans HZZ.out
    have Qo:=qi HOWNZ.out fun b hb=>HB4.out.block b (HOWNZ.out.lt b hb).2
    have hz3:∀b,(Value.slice a3 l.length cap3).ownBlock=some b→b≠w3.heap.size:=fun b hb e=>by
     subst e
     exact ZI Qo hb hz4
    refine(gather_any qf HAP.out l hl (fun r hr=>⟨(hpn r hr).1,HOK.out r hr⟩) w3.heap.size _ _ _ w4 hz4 (fun W hg=>qO (qi Qo fun b hb=>hg.block b (Qo.lt b hb).2 (by simpa using hz3 b hb)))).mono ?_
    rintro e w5 ⟨rfl,hg5,sb,tb,hsb,htb,hst,hz5,hS5,hT5⟩
    have hzl:w3.heap.size<w4.heap.size:=qw hz4
    have hBw5:Below w.heap.size w w5:=(HBZ.out.trans (HB4.out.mono (by omega))).grown hg5 (by omega) (fun j e=>by cases e;omega)
    have hown5:=qi Qo fun b hb=>hg5.block b (Qo.lt b hb).2 (by simpa using hz3 b hb)
    have hs5:w4.heap.size≤w5.heap.size:=hg5.size
    have k4:=(hg5.block w.heap.size (by omega) (by simp;omega)).trans HK4.out
    have k5:=(hg5.block (w.heap.size+1) (by omega) (by simp;omega)).trans HK5.out
    have k6:=(hg5.block (w.heap.size+2) (by omega) (by simp;omega)).trans HK6.out
    have c5:w5.cell? ⟨w.heap.size,0,none⟩=some (.pointer (some ⟨w3.heap.size,0,none⟩)):=by rw[qg k4];rfl
    have HOWN5:=Lib.hid hown5;have HZ5:=Lib.hid hz5;have HS5:=Lib.hid hS5;have HT5:=Lib.hid hT5;have HBW5:=Lib.hid hBw5;have HL4:=Lib.hid k4;have HL5:=Lib.hid k5;have HL6:=Lib.hid k6;have HPN:=Lib.hid hpn
    clear hpn hz4 Qo hz3 hg5 hz5 hS5 hT5 hBw5 hown5 k4 k5 k6 c4
    go_wp2_with fail
    refine(rules_any qf l hl (fun r hr=>⟨(HPN.out r hr).1,HOK.out r hr⟩) w3.heap.size sb w4.heap.size _ _ w5 HZ5.out (qO HOWN5.out) HS5.out).mono ?_
    intro e w6 hp
    obtain⟨ht,hB6⟩:=hp
    have hs6:w5.heap.size≤w6.heap.size:=hB6.size
    have hBw6:=HBW5.out.trans (hB6.mono (by omega))
    have k4:=(hB6.block _ (qw HL4.out)).trans HL4.out
    have k5:=(hB6.block _ (qw HL5.out)).trans HL5.out
    have k6:=(hB6.block _ (qw HL6.out)).trans HL6.out
    have hz6:=(hB6.block _ (qw HZ5.out)).trans HZ5.out
    have hown6:=qi HOWN5.out fun b hb=>hB6.block b (HOWN5.out.lt b hb).2
    have hS6:=HS5.out.below hB6
    have hT6:=HT5.out.below hB6
    have c6:w6.cell? ⟨w.heap.size,0,none⟩=some (.pointer (some ⟨w3.heap.size,0,none⟩)):=by rw[qg k4];rfl
    have z6:w6.cell? ⟨w3.heap.size,1,none⟩=some (.slice a3 l.length cap3):=by rw[qg hz6];rfl
    have HM4:=Lib.hid k4;have HM5:=Lib.hid k5;have HM6:=Lib.hid k6;have HBW6:=Lib.hid hBw6;have HZ6:=Lib.hid hz6;have HOWN6:=Lib.hid hown6;have HS6:=Lib.hid hS6;have HT6:=Lib.hid hT6
    clear k4 k5 k6 hBw6 hz6 hown6 hS6 hT6 hB6 c5
    rcases hru:zn.yh qf l with _ | ⟨k,c⟩
    ·rw[hru]at ht
     obtain rfl:e=_:=ht
     have HRU:=Lib.hid hru
     clear hru
     have hpos:=rules_pos HRU.out
     obtain⟨g3,cap4,hv,hg30,hg31⟩:=HOWN6.out.form hpos
     simp only[Value.slice.injEq,true_and]at hv
     obtain⟨rfl,rfl⟩:=hv
     have HRB:=Lib.hid hg30
     go_wp2_with fail
     refine(KC l hl (fun r hr=>(HPN.out r hr).1) _ g3 cap3 w6 HOWN6.out).mono ?_
     rintro e w7 ⟨rfl,hg7,L,hL,uQ⟩
     have hn:zn.jH l:=fun r hr=>(HPN.out r hr).1
     have hu:zn.Uniq l:=zn.V9 (zn.Qa (zn.Q7 HRU.out))
     have hLl:L.length=l.length:=hL.1.length_eq
     have hs7:w6.heap.size≤w7.heap.size:=hg7.size
     have hg3:w2.heap.size≤g3∧g3<w3.heap.size+1:=by
      have h1:=HOWNZ.out.lt g3 rfl
      omega
     have hBw7:=HBW6.out.grown hg7 (by omega) (fun j e=>by cases e;omega)
     have hne3:g3≠w3.heap.size:=fun e=>by subst e;exact ZI HOWN6.out rfl HZ6.out
     have hz7:=(hg7.block _ (qw HZ6.out) (by simpa using Ne.symm hne3)).trans HZ6.out
     have k4:=(hg7.block w.heap.size (by omega) (by simp;omega)).trans HM4.out
     have k5:=(hg7.block (w.heap.size+1) (by omega) (by simp;omega)).trans HM5.out
     have k6:=(hg7.block (w.heap.size+2) (by omega) (by simp;omega)).trans HM6.out
     have hS7:yz w7 w4.heap.size sb (zn.Qk l) (zn.qD l):=HS6.out.keep fun b hb hlt=>hg7.block b hlt (by simp;omega)
     have hT7:ym w7 tb (zn.Zo (qJ qf).toNat l):=HT6.out.grown hg7 (by simp;omega)
     obtain⟨val7,hM7,hR7,hD7⟩:=hS7
     have hS7:yz w7 w4.heap.size sb (zn.Qk l) (zn.qD l):=⟨val7,hM7,hR7,hD7⟩
     obtain⟨w8,hrun8,hRF8,hB8,hs8⟩:=QH Tryz.underlying91 hM7
     have c7:w7.cell? ⟨w.heap.size,0,none⟩=some (.pointer (some ⟨w3.heap.size,0,none⟩)):=by rw[qg k4];rfl
     have z7:w7.cell? ⟨w3.heap.size,2,none⟩=some (.map (some sb)):=by rw[qg hz7];rfl
     have HBW7:=Lib.hid hBw7;have HZ7:=Lib.hid hz7;have HN4:=Lib.hid k4;have HN5:=Lib.hid k5;have HN6:=Lib.hid k6;have HS7:=Lib.hid hS7;have HT7:=Lib.hid hT7;have HRF8:=Lib.hid hRF8;have HB8:=Lib.hid hB8
     have HOWN7:=Lib.hid uQ;have HL:=Lib.hid hL;have HNN:=Lib.hid hn;have HUU:=Lib.hid hu;have HLL:=Lib.hid hLl;have HS8:=Lib.hid hs8
     have hs8':w7.heap.size<w8.heap.size:=by omega
     clear hg7 hBw7 hz7 k4 k5 k6 hS7 hT7 hM7 hR7 hD7 hRF8 hB8 uQ hL hn hu hLl hs8 c6 z6
     go_wp2_with fail
     clear hrun8 c7 z7
     go_loopw [] (fun wr=>LoopN w8 wr w4.heap.size sb tb w7.heap.size l L val7 (qJ qf).toNat) (fun wr=>wr.rangeLeft sb w7.heap.size)
     case atStart=>
      exact⟨[],HRF8.out,(HS7.out.below HB8.out).congr (fun κ _=>by simp),HT7.out.below HB8.out,Below.refl _ _⟩
     case round=>
      obtain⟨done,hRF,hS,hT,hB⟩:=hrel
      have hsr:w8.heap.size≤wr.heap.size:=hB.size
      have hB7r:Below w4.heap.size w7 wr:=(HB8.out.mono (by omega)).trans hB
      have hzr:=(hB7r.block _ hzl).trans HZ7.out
      have k4:=(hB7r.block w.heap.size (by omega)).trans HN4.out
      have k5:=(hB7r.block (w.heap.size+1) (by omega)).trans HN5.out
      have k6:=(hB7r.block (w.heap.size+2) (by omega)).trans HN6.out
      have hBwr:Below w.heap.size w wr:=HBW7.out.trans (hB7r.mono (by omega))
      rcases hRF.next (P:=Tryz.prog) 0 with⟨hall,hrun⟩|⟨κ,w9,hd,hnd,hrun,xY,hg9,hs9,hdec,hent⟩
      ·have c4:wr.cell? ⟨w.heap.size,0,none⟩=some (.pointer (some ⟨w3.heap.size,0,none⟩)):=by rw[qg k4];rfl
       have c5:wr.cell? ⟨w.heap.size+1,0,none⟩=some (.int .i64 0):=by rw[qg k5];rfl
       have c6:wr.cell? ⟨w.heap.size+2,0,none⟩=some (.int .i64 0):=by rw[qg k6];rfl
       have f4:wr.frozen? ⟨w.heap.size,0,none⟩=false:=qE k4 0
       have f5:wr.frozen? ⟨w.heap.size+1,0,none⟩=false:=qE k5 0
       have f6:wr.frozen? ⟨w.heap.size+2,0,none⟩=false:=qE k6 0
       have Yt:=Lib.hid hall;have HS:=Lib.hid hS;have HT:=Lib.hid hT;have HZR:=Lib.hid hzr;have HBWR:=Lib.hid hBwr;have K4:=Lib.hid k4;have K5:=Lib.hid k5;have K6:=Lib.hid k6;have HB7R:=Lib.hid hB7r
       clear hRF hall hS hT hzr hBwr k4 k5 k6 hB7r hB
       go_wp2_with fail
       obtain⟨We,hWe⟩:∃X,X=((wr.setCell ⟨w.heap.size,0,none⟩ (.pointer (some ⟨w3.heap.size,0,none⟩))).setCell ⟨w.heap.size+1,0,none⟩ (.int .i64 0)).setCell ⟨w.heap.size+2,0,none⟩ (.int .i64 0):=⟨_,rfl⟩
       have d4:We.heap[w.heap.size]? =some (.cells #[.pointer (some ⟨w3.heap.size,0,none⟩)] 26 (0,0)):=by
        rw[hWe]
        exact zC (zC (qB K4.out 0 _) (by simp) _) (by simp) _
       have d5:We.heap[w.heap.size+1]? =some (.cells #[.int .i64 0] 3 (0,0)):=by
        rw[hWe]
        exact zC (qB (zC K5.out (by simp) _) 0 _) (by simp) _
       have d6:We.heap[w.heap.size+2]? =some (.cells #[.int .i64 0] 47 (0,0)):=by
        rw[hWe]
        exact qB (zC (zC K6.out (by simp) _) (by simp) _) 0 _
       have KZ:∀b,b≠w.heap.size→b≠w.heap.size+1→b≠w.heap.size+2→We.heap[b]? =wr.heap[b]?:=fun b n1 n2 n3=>by
        rw[hWe,Below.heap_setCell _ _ _ _ n3,Below.heap_setCell _ _ _ _ n2,Below.heap_setCell _ _ _ _ n1]
       have hBe:Below w.heap.size w We:=by
        rw[hWe]
        exact((HBWR.out.setCell (Nat.le_refl _) _).setCell (Nat.le_succ _) _).setCell (by simp only;omega) _
       have hsb':=hsb;have htb':=htb
       have hzone:ZoneIn We w3.heap.size qf L:=by
        refine⟨w4.heap.size,g3,cap3,sb,tb,l,HL.out.1.symm,?_,?_,?_,?_⟩
        ·rw[HLL.out]
         exact(KZ _ (by omega) (by omega) (by omega)).trans HZR.out
        ·rw[HLL.out]
         refine yj (qi HOWN7.out fun b hb=>?_) (Nat.zero_le _)
         obtain rfl:g3=b:=by simpa[Value.ownBlock] using hb
         exact(KZ _ (by omega) (by omega) (by omega)).trans (HB7R.out.block _ (by omega))
        ·refine(HS.out.congr fun κ hκ=>by rw[if_pos (Yt.out κ hκ)]).keep fun b hb _=>KZ b (by omega) (by omega) (by omega)
        ·exact HT.out.keep fun _=>KZ tb (by omega) (by omega) (by omega)
       have hpost:kT qf l w (.returned (.tuple #[.pointer (some ⟨w3.heap.size,0,none⟩),.int .i64 0,.int .i64 0])) We:=by
        unfold kT
        rw[(XI HAP.out HM.out HPL.out).trans HRU.out]
        exact⟨hBe,_,L,by omega,HL.out,rfl,QR.new hzone⟩
       rw[← hWe]
       exact new_out _ w.heap.size w3.heap.size _ We (by rw[qg d4];rfl) (by rw[qg d5];rfl) (by rw[qg d6];rfl) rfl rfl rfl hpost
      ·have hs9':wr.heap.size≤w9.heap.size:=hg9.size
       have hκ:uR κ:=hRF.2.1 κ hd
       have hiter:=hRF.Xd
       have hrl:=hRF.lt
       have hS9:=hS.grownIter hg9 hiter
       have hT9:=hT.grown hg9 (by
        obtain⟨es,c,hm⟩:=hT.vS
        obtain⟨_,_,_,_,hi⟩:=hiter
        simpa using K3 hi hm (by simp))
       obtain⟨ok,hok⟩:∃o,o=Obj.cells #[.string κ.1,.int .i64 κ.2] 102:=⟨_,rfl⟩
       obtain⟨W,hW⟩:∃X,X=(w9.alloc ok).drew:=⟨_,rfl⟩
       have hB9W:Below w9.heap.size w9 W:=by rw[hW];exact((Below.refl _ w9).alloc (Nat.le_refl _) ok).drew
       have hSW:=hS9.below hB9W
       have hTW:=hT9.below hB9W
       have hRW:=xY.below hB9W
       have hsW:W.heap.size=w9.heap.size+1:=by rw[hW];simp
       have hFκ:(if κ∈done then zn.qD L κ else zn.qD l κ)=zn.qD l κ:=if_neg hnd
       obtain⟨g,capg,hlk,hown,hbg,hgl,hgs,hupd⟩:=sets_take hSW hκ hd (by rw[hFκ];exact zn.Xz hd)
       rw[hFκ]at hlk hown hupd
       have hB8W:Below w4.heap.size w8 W:=(hB.grown hg9 (by omega) (fun j e=>by cases e;omega)).trans (hB9W.mono (by omega))
       have hB7W:Below w4.heap.size w7 W:=(HB8.out.mono (by omega)).trans hB8W
       have hzW:=(hB7W.block _ hzl).trans HZ7.out
       have k4W:=(hB7W.block w.heap.size (by omega)).trans HN4.out
       have e1:W.cell? ⟨w.heap.size,0,none⟩=some (.pointer (some ⟨w3.heap.size,0,none⟩)):=by rw[qg k4W];rfl
       have e2:W.cell? ⟨w3.heap.size,2,none⟩=some (.map (some sb)):=by rw[qg hzW];rfl
       have hko:W.heap[w9.heap.size]? =some (.cells #[.string κ.1,.int .i64 κ.2] 102 (0,0)):=by rw[hW,hok];exact qo (w:=w9) rfl
       have e3:W.cell? ⟨w9.heap.size,0,none⟩=some (.string κ.1):=by rw[qg hko];rfl
       have e4:W.cell? ⟨w9.heap.size,1,none⟩=some (.int .i64 κ.2):=by rw[qg hko];rfl
       have hlen:(zn.qD l κ).length≤l.length:=List.length_filter_le _ _
       obtain⟨κ1,κ2⟩:=κ
       have HLK:=Lib.hid hlk;have HOWN:=Lib.hid hown;have HUPD:=Lib.hid hupd;have HE1:=Lib.hid e1;have HE2:=Lib.hid e2;have HE3:=Lib.hid e3;have HE4:=Lib.hid e4;have HW:=Lib.hid hW;have HOK2:=Lib.hid hok
       have HRF9:=Lib.hid xY;have HRW:=Lib.hid hRW;have HTW:=Lib.hid hTW;have HDEC:=Lib.hid hdec;have HB8W:=Lib.hid hB8W;have HB9W:=Lib.hid hB9W;have HFK:=Lib.hid hFκ;have HHD:=Lib.hid hd;have HND:=Lib.hid hnd
       clear hlk hown hupd e1 e2 e3 e4 hW hok xY hRW hTW hdec hB8W hB9W hFκ hd hnd hRF hS hT hB hS9 hT9 hSW hg9 hko k4W hzW hB7W k4 k5 k6 hzr hBwr hB7r hiter
       have HS9:=Lib.hid hs9
       clear hs9
       go_wp2_with fail
       have ho2:Obj.cells #[.string κ1,.int .i64 κ2] 102=ok:=HOK2.out.symm
       rw[ho2]
       clear ho2 hrun hent
       refine wp_region_still_tail 6 (by kernel_rfl) (by kernel_rfl) ?_
       have hws:({ heap:=(w9.alloc ok).heap,tape:=(w9.alloc ok).tape,drawn:=(w9.alloc ok).drawn+1,os:=(w9.alloc ok).os,output:=(w9.alloc ok).output}:World)=W:=HW.out.symm
       rw[hws]
       clear hws
       have e1:=HE1.out;have e2:=HE2.out;have e3:=HE3.out;have e4:=HE4.out;have hlk:=HLK.out
       simp only[List.take_succ_cons,List.take_zero,List.drop_succ_cons,List.drop_zero]
       repeat still_step
       refine wpStill_nil ?_
       go_wp2_with fail
       have hin:∀r∈zn.qD l (κ1,κ2),r∈l:=fun r hr=>(List.mem_filter.1 hr).1
       refine(KC (zn.qD l (κ1,κ2)) (by omega) (fun r hr=>HNN.out r (hin r hr)) _ g capg W HOWN.out).mono ?_
       rintro e w11 ⟨rfl,hg11,L',hL',hown11⟩
       have hLe:L'=zn.qD L (κ1,κ2):=hL'.eq (HL.out.rows (κ1,κ2)) (fun r hr=>HNN.out r (hin r hr)) (HUU.out.sub hin)
       have hS11:=HUPD.out w11 L' hL'.1.length_eq hg11 hown11
       have hgr:g≠w7.heap.size:=fun e=>by
        subst e
        obtain⟨c',fz,hc⟩:=Lib.ownsRow_kind HOWN.out _ rfl
        obtain⟨_,_,_,_,hi⟩:=HRW.out.Xd
        rw[hi]at hc
        cases hc
       have hgt:g≠tb:=fun e=>by
        subst e
        obtain⟨es,c,hm⟩:=HTW.out.vS
        exact jk HOWN.out hm rfl
       have hRF11:=HRW.out.grown hg11 (by simpa using hgs) (by simpa using hgr)
       have hT11:=HTW.out.grown hg11 (by simpa using hgt)
       have hB11:=HB8W.out.grown hg11 (by omega) (fun j e=>by cases e;exact hbg)
       have hrl:w11.rangeLeft sb w7.heap.size<wr.rangeLeft sb w7.heap.size:=by
        have h1:=HRF9.out.map.lt
        have h2:=HRF9.out.lt
        have h3:w11.rangeLeft sb w7.heap.size=w9.rangeLeft sb w7.heap.size:=jB ((hg11.block sb (by omega) (by simpa using Ne.symm hgs)).trans (HB9W.out.block sb h1)) ((hg11.block _ (by omega) (by simpa using Ne.symm hgr)).trans (HB9W.out.block _ h2))
        rw[h3]
        exact HDEC.out
       have HS11:=Lib.hid hS11;have HRF11:=Lib.hid hRF11;have HT11:=Lib.hid hT11;have HB11:=Lib.hid hB11;have HRL:=Lib.hid hrl;have HLE:=Lib.hid hLe
       clear hS11 hRF11 hT11 hB11 hrl hLe hL' hown11 hg11 hin e1 e2 e3 e4 hlk
       go_wp2_with fail
       go_roundw
       case rel=>
        refine⟨done ++ [(κ1,κ2)],HRF11.out,HS11.out.congr fun κ' _=>?_,HT11.out,HB11.out⟩
        by_cases he:κ'=(κ1,κ2)
        ·subst he
         simp[HLE.out]
        ·simp[he]
       case measure=>exact HRL.out
    ·rw[hru]at ht
     obtain rfl:e=_:=ht
     have HRU:=Lib.hid hru
     clear hru
     go_wp2_with fail
     exact KQ _ w.heap.size _ k c _ _ _ w6 HM4.out HM5.out HM6.out rfl rfl rfl (fun w' h=>kT.bad ((XI HAP.out HM.out HPL.out).trans HRU.out) (HBW6.out.trans h))
   ·rw[hpl]at ht
    obtain rfl:e=_:=ht
    have HPL:=Lib.hid hpl
    clear hpl
    go_wp2_with fail
    exact KQ _ w.heap.size _ k c _ _ _ w4 HK4.out HK5.out HK6.out rfl rfl rfl (fun w' h=>kT.bad (newE_plain HAP.out HM.out HPL.out) ((HBZ.out.trans (HB4.out.mono (by omega))).trans h))
end Go.Proofs.YtdjjemajfphjaaaGreat
namespace Go.Proofs.YtdjjemajfphjaaaGreat
open Go.RowKit Go.Shelf Go.WideMaps nm od
def Zg (L:List Rec)(w:World)(e:Ending)(w':World):Prop:=∃v,e= .returned v∧Below w.heap.size w w'∧w'.ownsRow w.heap.size 51 5 v L.length (qG L)
theorem ve (z:Nat)(qf:ByteArray)(rv sv tv:Value)(w:World)(hz:kF w z qf rv sv tv):
 Calls Tryz.prog 16 #[.pointer (some ⟨z,0,none⟩)] w fun e w'=>e= .returned (.string qf)∧w'=w:=by
 have z0:w.cell? ⟨z,0,none⟩=some (.string qf):=by rw[qg hz];rfl
 clear hz
 go_enter Tryz.func16,Tryz.ntmps16
 go_wp2
 go_ret
 exact⟨rfl,rfl⟩
theorem uw (top z:Nat)(qf:ByteArray)(L:List Rec)(hL:L.length≤2000)(w:World)(hz:QR w top z qf L):
 Calls Tryz.prog 15 #[.pointer (some ⟨z,0,none⟩)] w fun e w'=>Zg L w e w':=by
 obtain⟨base,rg,cap,sb,tb,l0,h1,h2,h3,h4,h5⟩:=hz.parts
 have z1:w.cell? ⟨z,1,none⟩=some (.slice (some ⟨rg,0,none⟩) L.length cap):=by rw[qg h2];rfl
 have HC:=Lib.hid (Zp L (by omega) _ (ZH h3) w (qO h3))
 clear h1 h2 h3 h4 h5 hz
 go_enter Tryz.func15,Tryz.ntmps15
 go_wp2_with fail
 refine HC.out.mono ?_
 rintro e w' ⟨v,rfl,hB,hown⟩
 have HB:=Lib.hid hB;have HO:=Lib.hid hown
 clear hB hown
 go_wp2_with fail
 go_ret
 exact⟨v,rfl,HB.out,HO.out⟩
theorem UR (L:List Rec)(κ:Key):(zn.qD L κ).length≤L.length:=List.length_filter_le _ _
theorem XA {l L:List Rec}(h:l.Perm L){κ:Key}(hκ:κ∉zn.Qk l):zn.qD L κ= []:=by
 have h1:=zn.QG hκ
 have h2:=(h.filter fun r=>decide (zn.zh r=κ)).length_eq
 unfold zn.qD at h1 ⊢
 rw[h1]at h2
 exact List.eq_nil_of_length_eq_zero h2.symm
theorem set_any (top z:Nat)(qf:ByteArray)(L:List Rec)(hL:L.length≤2000)(n:ByteArray)(t:Int)(ht:(Lit.int .i64 t).wf=true)(w:World)(hz:QR w top z qf L):
 Calls Tryz.prog 30 #[.pointer (some ⟨z,0,none⟩),.string n,.int .i64 t] w fun e w'=>Zg (zn.qD L (qm n,t)) w e w':=by
 obtain⟨base,rg,cap,sb,tb,l0,h1,h2,h3,h4,h5⟩:=hz.parts
 have z2:w.cell? ⟨z,2,none⟩=some (.map (some sb)):=by rw[qg h2];rfl
 obtain⟨v,hv,hown⟩:=ZB h4 (fun κ hκ=>XA h1 hκ) (κ:=(qm n,t)) ⟨Yn _,ht⟩
 have e1:=qh z2
 have e2:=fun p=>hv (gw w p) (qp w p)
 have hll:=UR L (qm n,t)
 have HO:=Lib.hid hown
 clear h1 h2 h3 h4 h5 hz hv hown z2
 go_enter Tryz.func30,Tryz.ntmps30
 go_wp2_with fail
 refine ze (C:=fun W=>∃p,W=gw w p) 9 (by kernel_rfl) (by kernel_rfl) (uL w) ?_
 simp only[List.take_succ_cons,List.take_zero,List.drop_succ_cons,List.drop_zero]
 repeat (with_reducible refine wpQuiet_step (fun K hK=>?_);go_simp;first | (with_reducible refine hK _ ?_;clear hK K) | (apply Exists.intro;refine⟨fun _=>?_,hK _ ?_⟩;(first | (go_at_call 65;exact qL (je _ _)));clear hK K))
 with_reducible refine wpQuiet_nil ?_
 intro W hW
 have hBW:Below w.heap.size w W:=by obtain⟨p,rfl⟩:=hW;exact qp _ _
 clear e1 e2 hW
 have HBW:=Lib.hid hBW
 have hown2:=qi HO.out fun b hb=>hBW.block b (HO.out.lt b hb).2
 have HC:=Lib.hid (Zp (zn.qD L (qm n,t)) (by omega) _ (ZH hown2) W (qO hown2))
 clear hown2 hBW
 go_wp2_with fail
 refine HC.out.mono ?_
 rintro e w' ⟨v',rfl,hB,hown⟩
 have HB:=Lib.hid hB;have HO2:=Lib.hid hown
 clear hB hown
 go_wp2_with fail
 go_ret
 exact⟨v',rfl,HBW.out.trans (HB.out.mono HBW.out.size),yj HO2.out HBW.out.size⟩
end Go.Proofs.YtdjjemajfphjaaaGreat
namespace Go.Proofs.YtdjjemajfphjaaaGreat
open Go.RowKit Go.Shelf Go.WideMaps nm od
namespace zn
theorem insK_length {α:Type} [DecidableEq α] (d:List α)(a:α):(jA d a).length≤d.length+1:=by
 unfold jA;split <;> simp
theorem JM:∀(l d:List ByteArray),(uU d l).length≤d.length+l.length
 | [],d=>by simp[uU]
 | a :: l,d=>by
   have h1:=JM l (jA d a)
   have h2:=insK_length d a
   show(uU (jA d a) l).length≤_
   rw[List.length_cons]
   omega
theorem VD (c:Nat)(l:List Rec):(Zo c l).length≤l.length*256:=by
 have h:∀(l:List Rec) (d:List ByteArray),(l.foldl (fun d r=>if zV r then d else uU d (ups c (qm r.owner))) d).length≤d.length+l.length*256:=by
  intro l
  induction l with
  | nil=>intro d;simp
  | cons r l ih=>
    intro d
    rw[List.foldl_cons,List.length_cons]
    have h1:=ih (if zV r then d else uU d (ups c (qm r.owner)))
    have h2:(if zV r then d else uU d (ups c (qm r.owner))).length≤d.length+256:=by
     split
     ·omega
     ·have h3:=JM (ups c (qm r.owner)) d
      have h4:(ups c (qm r.owner)).length≤256:=by
       have:=ZV (qm r.owner)
       unfold ups
       simp
       omega
      omega
    omega
 have:=h l []
 simpa[Zo] using this
end zn
def NewNames (N:List ByteArray)(w:World)(e:Ending)(w':World):Prop:=∃v,e= .returned v∧Below w.heap.size w w'∧w'.ownsRow w.heap.size 9 1 v N.length (N.map .string)
def Xf (qf:ByteArray)(L:List Rec)(N:List ByteArray):Prop:=
 N.Nodup∧(∀n,n∈N↔∃r∈L,zn.zV r=false∧n∈zn.ups (qJ qf).toNat (qm r.owner))∧N.Pairwise (fun a b=>q8 a b≤0)
def LoopK (w0 wr:World)(tb r:Nat)(dom:List ByteArray)(val:ByteArray→Value)(v:Value):Prop:=
 ∃done:List ByteArray,yN Value.string vM wr tb r dom val done∧wr.ownsRow w0.heap.size 9 1 v done.length (done.map .string)∧Below w0.heap.size w0 wr
theorem loopK_len {w0 wr:World}{tb r:Nat}{dom:List ByteArray}{val:ByteArray→Value}{v:Value}(h:LoopK w0 wr tb r dom val v):∃a n cap,v= .slice a n cap:=by
 obtain⟨done,_,h2,_⟩:=h
 obtain⟨a,cap,rfl,_⟩:=qC h2
 exact⟨_,_,_,rfl⟩
theorem UL (l:List ByteArray)(hl:l.length≤1000000)(hok:∀r∈l,ql r=true)(base:Nat)(v:Value)(w:World)(hrow:w.ownsRow base 9 1 v l.length (l.map .string)):
 Calls Tryz.prog 162 #[v,.func (.func 120) #[] #[]] w fun e w'=>
  e= .returned (.tuple #[])∧∃N:List ByteArray,N.Perm l∧N.Pairwise (fun a b=>q8 a b≤0)∧w'.ownsRow base 9 1 v N.length (N.map .string)∧w.grownBy w' v.ownBlock:=by
 rcases hrow.2 with⟨rfl,h0⟩|⟨g,cap,cur,rfl,hb,hg,rest⟩
 ·have hl0:l= []:=List.eq_nil_of_length_eq_zero h0
  subst hl0
  refine(AnyF.slices_SortFunc_none Tryz.sortS0 none 0 _ w).mono ?_
  rintro e w' ⟨rfl,rfl⟩
  exact⟨rfl,[],List.Perm.refl _,List.Pairwise.nil,hrow,World.grownBy.refl _ _⟩
 ·refine(sortNames_any l hl hok base g cap w hrow).mono ?_
  rintro e w' ⟨rfl,hg',N,hN,hpw,hown⟩
  exact⟨rfl,N,hN,hpw,by rw[hN.length_eq];exact hown,hg'⟩
theorem names_any (top z:Nat)(qf:ByteArray)(L:List Rec)(hL:L.length≤2000)(hn:∀r∈L,ql r.owner=true)(w:World)(hz:QR w top z qf L):
 Calls Tryz.prog 128 #[.pointer (some ⟨z,0,none⟩)] w fun e w'=>∃N,Xf qf L N∧NewNames N w e w':=by
 obtain⟨base,rg,cap,sb,tb,l0,h1,h2,h3,h4,f,hT⟩:=hz.parts
 have z3:w.cell? ⟨z,3,none⟩=some (.map (some tb)):=by rw[qg h2];rfl
 obtain⟨dom,hdom⟩:∃d,d=zn.Zo (qJ qf).toNat l0:=⟨_,rfl⟩
 rw[← hdom]at hT
 have hdl:dom.length≤512000:=by
  have:=zn.VD (qJ qf).toNat l0
  have:=h1.length_eq
  rw[hdom];omega
 have hmem:∀n,n∈dom↔∃r∈L,zn.zV r=false∧n∈zn.ups (qJ qf).toNat (qm r.owner):=fun n=>by
  rw[hdom,zn.KT]
  exact⟨fun⟨r,hr,h⟩=>⟨r,h1.mem_iff.1 hr,h⟩,fun⟨r,hr,h⟩=>⟨r,h1.mem_iff.2 hr,h⟩⟩
 have hnd:dom.Nodup:=hT.1
 have hck:∀n∈dom,ql n=true:=fun n hn'=>by
  obtain⟨r,hr,_,hu⟩:=(hmem n).1 hn'
  obtain⟨ls,hls⟩:=zT (hn r hr)
  obtain⟨i,hi,rfl⟩:=List.mem_map.1 hu
  have hc:=jN (kg hls)
  rw[List.mem_range,hc,Int.toNat_natCast]at hi
  exact vX (kV (kg hls) (by rw[hc];omega) (by rw[hc];omega)).2
 obtain⟨w1,hrun,hRF,hB1,hs1⟩:=QH Tryz.underlying92 hT
 have HRF:=Lib.hid hRF;have HB1:=Lib.hid hB1;have HMEM:=Lib.hid hmem;have HND:=Lib.hid hnd;have HCK:=Lib.hid hck
 obtain⟨i0,hi0,hz0,hz1,hz2⟩:=info_parts ZK
 have HI:=Lib.hid hi0;have HZ:=Lib.hid hz0;have HZ1:=Lib.hid hz1;have HZ2:=Lib.hid hz2
 clear h1 h2 h3 h4 hT hz hdom hmem hnd hck hRF hB1 hs1 hi0 hz0 hz1 hz2 hn
 go_enter Tryz.func128,Tryz.ntmps128
 go_wp2_with fail
 clear hrun z3
 go_loopw [3] (fun v wr=>LoopK w wr tb w.heap.size dom (fun a=>.int .i64 (f a)) v) (fun _ wr=>wr.rangeLeft tb w.heap.size)
 case atStart=>exact⟨[],HRF.out,World.ownsRow_nil _ _ _ _,HB1.out⟩
 case round=>
  obtain⟨a,n,cap',rfl⟩:=loopK_len hrel
  obtain⟨done,hRF,hown,hB⟩:=hrel
  have hln:n=done.length:=by
   obtain⟨_,_,hv,_⟩:=qC hown
   simp only[Value.slice.injEq]at hv
   exact hv.2.1
  subst hln
  rcases hRF.next (P:=Tryz.prog) 0 with⟨hall,hrun⟩|⟨κ,w9,hd,hnd,hrun,xY,hg9,hs9,hdec,hent⟩
  ·have hperm:done.Perm dom:=(List.perm_ext_iff_of_nodup hRF.2.2.1 HND.out).2 fun a=>⟨hRF.2.2.2.1 a,hall a⟩
   have hdl2:=hperm.length_eq
   have hOWN:=Lib.hid hown;have HB:=Lib.hid hB;have HP:=Lib.hid hperm;have HDL:=Lib.hid hdl2
   have hdl3:done.length≤512000:=by omega
   clear hall hRF hown hB hperm hdl2
   go_wp2_with fail
   refine(UL done (by omega) (fun n hn=>HCK.out n (HP.out.mem_iff.1 hn)) w.heap.size _ wr hOWN.out).mono ?_
   rintro e w' ⟨rfl,N,hN,hpw,hown,hg⟩
   have hpost:Xf qf L N∧NewNames N w (.returned (.slice a done.length cap')) w':=by
    refine⟨⟨(hN.trans HP.out).nodup_iff.2 HND.out,fun n=>by rw[(hN.trans HP.out).mem_iff];exact HMEM.out n,hpw⟩,_,rfl,HB.out.grown hg HB.out.size (fun j hj=>(hOWN.out.lt j hj).1),?_⟩
    exact hown
   have HPOST:=Lib.hid hpost
   clear hpost hN hpw hown hg
   go_wp2_with fail
   go_ret
   exact⟨N,HPOST.out.1,HPOST.out.2⟩
  ·have hdl2:(done ++ [κ]).length≤dom.length:=kN _ _ xY.2.2.1 xY.2.2.2.1
   have hdl3:done.length+1≤512000:=by rw[List.length_append]at hdl2;simp at hdl2;omega
   have hs9':wr.heap.size≤w9.heap.size:=hg9.size
   have hsw:=hB.size
   have hiter:=hRF.Xd
   have hown9:=hown.kept hg9 (.inr (fun e=>by
    obtain⟨c',fz,hc⟩:=Lib.ownsRow_kind hown _ e
    obtain⟨_,_,_,_,hi⟩:=hiter
    rw[hi]at hc
    cases hc))
   have hB9:Below w.heap.size w w9:=hB.grown hg9 hsw (fun j e=>by cases e;exact Nat.le_refl _)
   have HOWN:=Lib.hid (qi hown9 fun b hb=>Below.heap_alloc w9 (.cells #[.string κ] 9) b (hown9.lt b hb).2)
   have HRF9:=Lib.hid xY;have HB9:=Lib.hid hB9;have HDEC:=Lib.hid hdec;have HS9:=Lib.hid hs9
   clear hRF hown hB hdl2 xY hg9 hdec hown9 hB9 hd hnd hiter hs9
   have q1:done.length+1≤maxLen:=by unfold maxLen;omega
   have q2:(done.length+1)*16≤140737488355328:=by omega
   have q3:w.heap.size≤(w9.alloc (.cells #[.string κ] 9)).heap.size:=by simp;omega
   have Q1:=Lib.hid q1;have Q2:=Lib.hid q2;have Q3:=Lib.hid q3
   clear q1 q2 q3
   go_wp2_with (at_builtin;refine wpList_append_own _ rfl _ _ 130 rfl w.heap.size 9 i0 (.string ByteArray.empty) 1 16 Tryz.underlying130 HI.out HZ.out HZ1.out HZ2.out rfl (by decide) _ _ _ rfl HOWN.out ⟨w9.heap.size,0,none⟩ 1 1 [.string κ] rfl rfl (cell_one_new _ _ _) (by simp[Value.oneCell']) Q1.out Q2.out Q3.out ?_)
   intro v' w10 qI q9 hnn
   clear hrun hent
   have hrow:∀b,b<w9.heap.size→(∀c,(Value.slice a done.length cap').ownBlock=some c→c≠b)→w10.heap[b]? =w9.heap[b]?:=fun b hb hc=>by
    rw[q9.block b (by simp;omega) (fun e=>hc b e.symm rfl)]
    exact Below.heap_alloc w9 _ b hb
   have jo:Below w.heap.size w w10:=(HB9.out.alloc (by omega) _).grown q9 Q3.out (fun j hj=>(HOWN.out.lt j hj).1)
   have hmap:=HRF9.out.map.vS
   have hit:=HRF9.out.Xd
   have hk1:w10.heap[tb]? =w9.heap[tb]?:=hrow tb HRF9.out.map.lt (fun c hc e=>by
    subst e
    obtain⟨es,cl,hm⟩:=hmap
    exact jk HOWN.out (qY hm _) hc)
   have hk2:w10.heap[w.heap.size]? =w9.heap[w.heap.size]?:=hrow _ HRF9.out.lt (fun c hc e=>by
    subst e
    obtain⟨c',fz,hc'⟩:=Lib.ownsRow_kind HOWN.out _ hc
    obtain⟨_,_,_,_,hi⟩:=hit
    rw[qY hi]at hc'
    cases hc')
   have hRF10:=HRF9.out.keep hk1 hk2
   have hrl:w10.rangeLeft tb w.heap.size<wr.rangeLeft tb w.heap.size:=by rw[jB hk1 hk2];exact HDEC.out
   have HRF10:=Lib.hid hRF10;have HRL:=Lib.hid hrl;have zw:=Lib.hid jo;have qQ:=Lib.hid qI
   clear hrow hmap hit hk1 hk2 hRF10 hrl jo qI q9 hnn
   go_wp2_with fail
   go_roundw
   case rel=>
    refine⟨done ++ [κ],HRF10.out,?_,zw.out⟩
    have:=qQ.out
    rw[List.length_append,List.map_append]
    exact this
   case measure=>exact HRL.out
end Go.Proofs.YtdjjemajfphjaaaGreat
