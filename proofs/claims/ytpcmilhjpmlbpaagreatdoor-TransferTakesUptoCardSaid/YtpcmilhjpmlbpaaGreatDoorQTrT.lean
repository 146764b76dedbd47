import Derived.Test.YtpcmilhjpmlbpaaGreatDoorQTrA
import Derived.Test.YtpcmilhjpmlbpaaGreatDoorQDelG
import Derived.Deep.CutBlock
set_option maxRecDepth 100000
set_option maxHeartbeats 4000000
namespace Go.Proofs.YtpcmilhjpmlbpaaGreatDoor
open Go.RowKit Go.Shelf nm od
@[reducible] def qX (z:Nat):Value:=.pointer (some ⟨z,0,none⟩)
theorem trec_ret {fn:Func}{p:Tmp}(hf:fn.results= #[.cell p 80]){R:Ending->World->Prop}{a:Act}{w:World}{g:Nat}{x:Rec}(hp:a.tmps.getD p undef= .pointer (some ⟨g,0,none⟩))
 (hd:a.defers= []) (hc:w.heap[g]? =some (.cells (recC x).toArray 80 (0,0))) (hR:R (.returned (yf x)) w):bodyPost Tryz.prog fn R .ret a w:=
 bodyPost_ret_by (results_cell_row hf _ w g _ _ _ _ hp hc Tryz.underlying80 rfl rec_size) hd hR
theorem YO (tz z:Nat)(Z:tr.Zn)(hv:tr.Ok Z)(w:World)(hz:jB w tz z Z.ap Z.l):
 Calls Tryz.prog 48 #[qX z] w λe w'=>e= .returned (yf (tr.qZ Z))/\Below w.heap.size w w':=by
 obtain⟨w1,hw1⟩:=yM (w.alloc (.cells #[.string ⟨#[]⟩,.int .i64 0,.int .i64 0,.int .i64 0,.string ⟨#[]⟩] 80));obtain⟨g,hg⟩:=yM w.heap.size;have hh:w1.heap[g]? =some (.cells #[.string ⟨#[]⟩,.int .i64 0,.int .i64 0,.int .i64 0,.string ⟨#[]⟩] 80 (0,0)):=by rw[hw1];exact qz hg
 have hB:Below w.heap.size w w1:=by rw[hw1];exact(gJ _ w).alloc (gI _) _
 have HW1:=qe hw1;have HG:=qe hg;have HH:=qe hh;have HB1:=qe hB;clear hw1 hg hh hB;obtain⟨r,hr⟩:=yM (tr.qZ Z);have hrow:zn.qJ Z.l (qy Z.ap,6)= [r]:=by rw[hr];exact(tr.yx hv).1
 rw[<- hr];have hz1:=hz.kept HB1.out;obtain⟨base0,rg0,cap0,sb0,tb0,l0,-,hza,-⟩:=hz1.v.parts;have hset:=set_any tz z Z.ap Z.l hz1.small Z.ap 6 rfl w1 hz1.v;rw[hrow]at hset;have HA:=qe (uH z Z.ap _ _ _ w1 hza);have HS:=qe hset;clear hr hrow hz hz1 hza hset
 go_enter Tryz.func48,Tryz.ntmps48
 go_upto_region 1 with fail;rw[<- HW1.out,<- HG.out];go_wp2_with fail;refine HA.out.mono ?_;rintro e wN ⟨rfl,hE⟩;obtain rfl:=hE.symm;clear hE;go_wp2_with fail;refine HS.out.mono ?_;rintro e w2 ⟨v2,rfl,hB2,hown2⟩;obtain⟨g2,cap2,rfl,-,-⟩:=hown2.form (by simp);obtain⟨-,c0,c1,c2,c3,c4⟩:=qH (qF hown2) (j:=0) (by simp);simp only[Ho,Nat.zero_add,Nat.zero_mul]at c0 c1 c2 c3 c4;have hi:(0:Int)<(([r]:List Rec).length:Int):=by simp
 have hi2:0<([r]:List Rec).length:=by simp
 have hh:=(hB2.block g (qA HH.out)).trans HH.out;have q0:w2.cell? ⟨g,0,none⟩=some (.string ⟨#[]⟩):=by rw[qg hh];rfl
 have q1:w2.cell? ⟨g,1,none⟩=some (.int .i64 0):=by rw[qg hh];rfl
 have q2:w2.cell? ⟨g,2,none⟩=some (.int .i64 0):=by rw[qg hh];rfl
 have q3:w2.cell? ⟨g,3,none⟩=some (.int .i64 0):=by rw[qg hh];rfl
 have q4:w2.cell? ⟨g,4,none⟩=some (.string ⟨#[]⟩):=by rw[qg hh];rfl
 have f0:=qB hh 0;have f1:=qB hh 1;have f2:=qB hh 2;have f3:=qB hh 3;have f4:=qB hh 4;obtain⟨e1,e2,-⟩:=fnd_store hh (gm HB1.out hB2) (Nat.le_of_eq HG.out.symm) (.string r.owner) (.int .i64 r.typ) (.int .i64 r.cls) (.int .i64 r.ttl) (.string r.data);have E1:=qe e1;have E2:=qe e2;clear hh e1 e2 hB2;clear hown2;go_wp2_with fail;exact trec_ret (x:=r) rfl rfl rfl E1.out ⟨rfl,E2.out⟩
theorem rsoa_any (z:Nat)(Z:tr.Zn)(hv:tr.Ok Z)(hap:Z.ap.size<=1099511627776)(w:World)(hz:uQ w z Z.ap Z.l):
 Calls Tryz.prog 50 #[qX z] w λe w'=>e= .returned (yf (tr.qZ Z))/\Below w.heap.size w w':=by
 obtain⟨w1,hw1⟩:=yM (w.alloc (.cells #[.string ⟨#[]⟩,.int .i64 0,.int .i64 0,.int .i64 0,.string ⟨#[]⟩] 80));obtain⟨g,hg⟩:=yM w.heap.size;have hh:w1.heap[g]? =some (.cells #[.string ⟨#[]⟩,.int .i64 0,.int .i64 0,.int .i64 0,.string ⟨#[]⟩] 80 (0,0)):=by rw[hw1];exact qz hg
 have hB:Below w.heap.size w w1:=by rw[hw1];exact(gJ _ w).alloc (gI _) _
 have HW1:=qe hw1;have HG:=qe hg;have HH:=qe hh;have HB1:=qe hB;clear hw1 hg hh hB;obtain⟨r,hr⟩:=yM (tr.qZ Z);have hrow:zn.qJ Z.l (qy Z.ap,6)= [r]:=by rw[hr];exact(tr.yx hv).1
 rw[<- hr];have hz1:=hz.below HB1.out;have hset:=rset_any z Z.ap Z.l hv.small hv.named Z.ap hap 6 w1 hz1;rw[hrow]at hset;obtain⟨gz,gc,hzc,-⟩:=id hz1;have z0:w1.cell? ⟨z,0,none⟩=some (.string Z.ap):=by rw[qg hzc];rfl
 have HS:=qe hset;clear hr hrow hz hz1 hzc hset
 go_enter Tryz.func50,Tryz.ntmps50
 go_upto_region 1 with fail;rw[<- HW1.out,<- HG.out];go_wp2_with fail;refine HS.out.mono ?_;rintro e w2 ⟨v2,rfl,hB2,hown2⟩;obtain⟨g2,cap2,rfl,-,-⟩:=hown2.form (by simp);obtain⟨-,c0,c1,c2,c3,c4⟩:=qH (qF hown2) (j:=0) (by simp);simp only[Ho,Nat.zero_add,Nat.zero_mul]at c0 c1 c2 c3 c4;have hi:(0:Int)<(([r]:List Rec).length:Int):=by simp
 have hi2:0<([r]:List Rec).length:=by simp
 have hh:=(hB2.block g (qA HH.out)).trans HH.out;have q0:w2.cell? ⟨g,0,none⟩=some (.string ⟨#[]⟩):=by rw[qg hh];rfl
 have q1:w2.cell? ⟨g,1,none⟩=some (.int .i64 0):=by rw[qg hh];rfl
 have q2:w2.cell? ⟨g,2,none⟩=some (.int .i64 0):=by rw[qg hh];rfl
 have q3:w2.cell? ⟨g,3,none⟩=some (.int .i64 0):=by rw[qg hh];rfl
 have q4:w2.cell? ⟨g,4,none⟩=some (.string ⟨#[]⟩):=by rw[qg hh];rfl
 have f0:=qB hh 0;have f1:=qB hh 1;have f2:=qB hh 2;have f3:=qB hh 3;have f4:=qB hh 4;obtain⟨e1,e2,-⟩:=fnd_store hh (gm HB1.out hB2) (Nat.le_of_eq HG.out.symm) (.string r.owner) (.int .i64 r.typ) (.int .i64 r.cls) (.int .i64 r.ttl) (.string r.data);have E1:=qe e1;have E2:=qe e2;clear hh e1 e2 hB2;clear hown2 z0;go_wp2_with fail;exact trec_ret (x:=r) rfl rfl rfl E1.out ⟨rfl,E2.out⟩
theorem XK:∀args w,(callFunc 153 args).run Tryz.prog w= .ok (.enter 153 args) w:=λ_ _=>by kernel_rfl
theorem others1_any (r:Rec)(w:World):Calls Tryz.prog 153 #[yf r] w λe w'=>e= .returned (.bool (decide (r.typ=6)))/\Below w.heap.size w w':=by
 obtain⟨wa,hwa⟩:=yM (w.alloc (.cells (recC r).toArray 80));obtain⟨hBa,hsa,hxa⟩:=zf w wa r hwa;obtain⟨bx,hbx⟩:=yM w.heap.size;rw[<- hbx]at hxa;obtain⟨x0,x1,x2,x3,x4⟩:=id hxa;have HB:=qe hBa;have HWA:=qe hwa;have HBX:=qe hbx;clear hwa hBa hsa hbx hxa;obtain⟨t,ht⟩:=yM (decide (r.typ=6));have hb:(r.typ == 6)=t:=by rw[ht];exact Bool.beq_eq_decide_eq ..
 rw[<- ht];clear ht
 go_enter Tryz.func153,Tryz.ntmps153
 go_upto_region 1 with fail;rw[<- HWA.out,<- HBX.out];go_wp2_with fail;go_ret;exact⟨rfl,HB.out⟩
theorem keep_rest (l:List Rec):df.keep (λr=>decide (r.typ=6)) l=tr.q9 l:=by
 unfold tr.q9 df.keep;rfl
theorem KZ (tz z:Nat)(Z:tr.Zn)(w:World)(hz:jB w tz z Z.ap Z.l):
 Calls Tryz.prog 104 #[qX z] w λe w'=>jk (tr.q9 Z.l) w e w':=by
 have HR:=qe (kH tz z Z.ap Z.l hz.small w hz.v);have HL:=qe hz.small;clear hz
 go_enter Tryz.func104,Tryz.ntmps104
 go_wp2_with fail;refine HR.out.mono ?_;rintro e w1 ⟨v1,rfl,hB1,hown1⟩;have hd:=JI 153 #[] XK (λr=>decide (r.typ=6)) w.heap.size w w1 Z.l (by have:=HL.out;omega) v1 hown1 hB1 hB1.size (λr _ X _=>others1_any r X);obtain⟨a1,c1,rfl,-⟩:=qj hown1;have HD:=qe hd;have HB1:=qe hB1;have HO1:=qe hown1;clear hB1 hown1 hd;go_wp2_with fail;refine HD.out.mono ?_;rintro e w2 ⟨v2,rfl,hown2,-,hg2⟩;rw[keep_rest]at hown2;have HO2:=qe hown2;have HB2:=qe (HB1.out.grown hg2 HB1.out.size (λj hj=>(HO1.out.lt j hj).1));obtain⟨a2,c2,rfl,-⟩:=qj hown2;clear hown2 hg2;go_wp2_with fail;go_ret;exact⟨_,rfl,HB2.out,HO2.out⟩
theorem jm {w:World}{a:Option Addr}{n cap:Nat}{l:List Rec}(h:ql w (.slice a n cap) l)(h0:0<l.length):∃b off,a=some ⟨b,off,none⟩:=by
 obtain⟨a',c,hv,_,hr⟩:=h;obtain⟨b',off',e,_,_⟩:=hr 0 h0;simp only[gL]at hv;exact⟨b',off',hv.1.trans e⟩
theorem JE {p:Rec->Bool}{l:List Rec}{k:Nat}(hk:k<l.length):(l.take (k+1)).filter p=if p l[k]=true then(l.take k).filter p ++ [l[k]] else(l.take k).filter p:=by
 rw[gV hk,List.filter_append]
 split
 ·rename_i h
  rw[List.filter_cons_of_pos h,List.filter_nil]
 ·rename_i h
  rw[List.filter_cons_of_neg h,List.filter_nil,List.append_nil]
theorem rrest_any (z:Nat)(Z:tr.Zn)(hsm:Z.l.length<=2000)(w:World)(hz:uQ w z Z.ap Z.l):
 Calls Tryz.prog 100 #[qX z] w λe w'=>jk (tr.q9 Z.l) w e w':=by
 obtain⟨Jz,JB,Km,Qq,QI⟩:=info_parts kT;have Ve:=qe JB;have Vd:=qe Km;have ZK:=qe Qq;have ZJ:=qe QI;clear JB Km Qq QI;obtain⟨p,hp⟩:∃p:Rec->Bool,p=λr=>!decide (r.typ=6):=⟨_,rfl⟩;have hrest:tr.q9 Z.l=Z.l.filter p:=by rw[hp];rfl
 obtain⟨l,hl⟩:=yM Z.l;rw[hrest];rw[<- hl]at hsm hz ⊢;obtain⟨gz,gc,hzc,hzr⟩:=id hz;have z1:w.cell? ⟨z,1,none⟩=some (.slice (some ⟨gz,0,none⟩) l.length gc):=by rw[qg hzc];rfl
 have HZR:=qe hzr;have HP:=qe hp;clear hz hzc hzr hrest hl hp
 go_enter Tryz.func100,Tryz.ntmps100
 go_wp2_with fail;clear z1
 go_loopw [11,3] (λkv av wr=>∃k:Nat,k<=l.length/\kv= .int .i64 (k:Int)/\wr.ownsRow w.heap.size 80 5 av ((l.take k).filter p).length (qw ((l.take k).filter p))/\Below w.heap.size w wr) (λkv _ _=>l.length-(intOf kv).toNat)
 case atStart=>exact⟨0,gU _,rfl,gZ _ _ _ _,gJ _ _⟩
 case round=>
  obtain⟨k,hk,rfl,hown,hB⟩:=hrel;obtain⟨w3,hw3⟩:=yM wr;subst hw3;have hsr:=hB.size;obtain⟨va,vc,rfl,_⟩:=qj hown;by_cases hlt:k<l.length
  ·have hki:(k:Int)<(l.length:Int):=by omega
   obtain⟨-,c0,c1,c2,c3,c4⟩:=qH (HZR.out.below hB) hlt;simp only[Nat.zero_add]at c0 c1 c2 c3 c4;obtain⟨x,hx⟩:=yM (l[k]);rw[<- hx]at c0 c1 c2 c3 c4;obtain⟨M,hM⟩:=yM ((l.take k).filter p);have hnx:=JE (p:=p) hlt;have hml:M.length<=2000:=by rw[hM];exact gQ (List.length_filter_le _ _) (by rw[List.length_take];omega)
   rw[<- hM]at hown hnx ⊢;rw[<- hx]at hnx;obtain⟨wa,hwa⟩:=yM (w3.alloc (.cells (recC x).toArray 80));obtain⟨hBa,hsa,hxa⟩:=zf w3 wa x hwa;have jG:=qe (ownsRow_below hown hBa);have HBa:=qe (hB.trans (hBa.mono hsr));have hsb:=HBa.out.size;obtain⟨x0,x1,x2,x3,x4⟩:=id hxa;clear hBa hsa hxa;have HOWN:=qe hown;have HB:=qe hB;have HX:=qe hx;have HM:=qe hM;have HWA:=qe hwa;clear hown hB hx hM hwa;go_upto_region 5 with fail;rw[<- HWA.out];clear c0 c1 c2 c3 c4;by_cases k6:x.typ=6
   ·have d6:(x.typ != 6)=false:=by rw[Hy];exact k6
    have hnx2:(l.take (k+1)).filter p=M:=by rw[hnx,if_neg (by rw[HP.out];simp[k6])]
    have HNX:=qe hnx;have HNX2:=qe hnx2;clear hnx hnx2;clear k6;go_wp2_with fail
    go_roundw
    case rel=>exact⟨k+1,by omega,by go_num,by rw[HNX2.out];exact jG.out,HBa.out⟩
    case measure=>simp[intOf];omega
   ·have d6:(x.typ != 6)=true:=by rw[bne_iff_ne];exact k6
    have hnx2:(l.take (k+1)).filter p=M ++ [x]:=by rw[hnx,if_pos (by rw[HP.out];simp[k6])]
    have HNX:=qe hnx;have HNX2:=qe hnx2;clear hnx hnx2;clear k6;go_upto_region 6 with fail;clear d6;have Zq:=qe (HBa.out.alloc HBa.out.size (.cells (recC x).toArray 80));have vH:=qe (qm jG.out λb hb=>Below.heap_alloc wa (.cells (recC x).toArray 80) b (jG.out.lt b hb).2);have Zp:=qe (show M.length+1<=maxLen from by unfold maxLen;omega);have Zm:=qe (show(M.length+1)*56<=140737488355328 from by omega);have vG:=qe (show w.heap.size<=(wa.alloc (.cells (recC x).toArray 80)).heap.size from by have:=HBa.out.size;simp;omega);have uJ:=qe (ve wa (recC x) 80);go_wp2_with (at_builtin;refine qW _ rfl _ _ 31 rfl w.heap.size 80 Jz (.agg #[.string ⟨#[]⟩,.int .i64 0,.int .i64 0,.int .i64 0,.string ⟨#[]⟩]) 5 56 Tryz.underlying31 Ve.out Vd.out ZK.out ZJ.out rfl (by decide) _ _ _ rfl vH.out ⟨wa.heap.size,0,none⟩ 1 1 (recC x) rfl rfl uJ.out (by simp[Value.oneCell']) Zp.out Zm.out vG.out ?_);intro v' w10 zz jg jM;have yt:=qe (Zq.out.grown jg vG.out (λj hj=>(vH.out.lt j hj).1));have zV:=qe zz;have JS:=qe jg;have QM:=qe jM;clear zz jg jM Zq vH Zp Zm vG uJ;clear x0 x1 x2 x3 x4;go_wp2_with fail
    go_roundw
    case rel=>exact⟨k+1,by omega,by go_num,by rw[HNX2.out,gK,ko];simpa[qw] using zV.out,yt.out⟩
    case measure=>simp[intOf];omega
  ·obtain rfl:k=l.length:=by omega
   rw[List.take_length]at hown;obtain⟨A,hA⟩:=yM (l.filter p);have hAe:((l.take l.length).filter p).length=A.length:=by rw[hA,List.take_length]
   rw[hAe];rw[<- hA]at hown;have HO:=qe (show w3.ownsRow w.heap.size 80 5 (.slice va A.length vc) (l.filter p).length (qw (l.filter p)) by rw[<- hA];exact hown);have HBE:=qe hB;clear hown hB hA hAe hlt;go_wp2_with fail;go_ret;exact⟨_,rfl,HBE.out,HO.out⟩
open Go.WideMaps Go.WideElems
theorem row_rec:(80:TypeId)<Tryz.prog.types.size:=of_decide_eq_true (by kernel_rfl)
theorem wide_rec:(match Tryz.prog.underlying 80 with | some (.array _ _) | some (.struct _)=>true | _=>false)=true:=by kernel_rfl
theorem law_rec:KeyLaw Tryz.prog 80:=deep_law_laid laidOut (m:=2) (by omega) row_rec (by kernel_rfl) wide_rec
theorem co_rec:Tryz.prog.cellsOf 80=5:=by kernel_rfl
theorem kt_rec:Tryz.prog.keyType 80=true:=by kernel_rfl
def YH (r:Rec):Prop:=r.owner.size<=maxLen/\(Lit.int .i64 r.typ).wf=true/\(Lit.int .i64 r.cls).wf=true/\(Lit.int .i64 r.ttl).wf=true/\r.data.size<=maxLen
theorem lits_rec (n:Nat)(r:Rec)(ha:YH r):∃l,Tryz.prog.keyLits (n+2) 80 (recC r)=some l:=by
 obtain⟨k1,k2,k3,k4,k5⟩:=ha;simp[Program.keyLits,Tryz.underlying80,Tryz.underlying9,Tryz.underlying3,co_rec,co_str,co_int,k1,k2,k3,k4,k5]
theorem recE:KeyE Tryz.prog 80 yf YH where
 law:=law_rec
 key:=λa ha=>by
  obtain⟨l,hl⟩:=lits_rec 294 a ha;have hf:Value.formed Tryz.prog 80 (yf a)=true:=by kernel_rfl
  have hs:Tryz.prog.types.size=295:=by kernel_rfl
  refine⟨.string (keyBytes l),?_⟩;unfold keyOf;rw[Tryz.underlying80];simp only[kt_rec,hf,Bool.and_true,if_true,hs];rw[show(yf a).cells.toList=recC a from rfl,hl];rfl
 inj:=λa b h=>by
  obtain⟨a1,a2,a3,a4,a5⟩:=a;obtain⟨b1,b2,b3,b4,b5⟩:=b;simp at h;simp[h]
end Go.Proofs.YtpcmilhjpmlbpaaGreatDoor
namespace Go.Proofs.YtpcmilhjpmlbpaaGreatDoor
open Go.RowKit Go.Shelf nm od
namespace up
open zn (qJ yh yJ xX)
def coll {α β:Type} [DecidableEq β] (p:α->Bool)(g:α->β)(l:List α):List β:=l.foldl (λd x=>if p x=true then uO d (g x) else d) []
section
variable {α β:Type} [DecidableEq β] (p:α->Bool)(g:α->β)
theorem coll_snoc (l:List α)(x:α):coll p g (l ++ [x])=if p x=true then uO (coll p g l) (g x) else coll p g l:=by unfold coll;rw[List.foldl_append];rfl
theorem uV {d:List β}{a b:β}:b∈uO d a↔b∈d\/b=a:=by
 unfold uO
 split
 ·exact⟨.inl,λh=>h.elim id (λe=>by rw[e];assumption)⟩
 ·rw[Hl,gY]
theorem nodup_insK {d:List β}{a:β}(h:d.Nodup):(uO d a).Nodup:=by
 unfold uO
 split
 ·exact h
 ·exact J7 h (by assumption)
theorem coll_all (l:List α):(coll p g l).Nodup/\∀b,b∈coll p g l↔∃x∈l,p x=true/\g x=b:=by
 have h:∀(l:List α) (d:List β),d.Nodup->(l.foldl (λd x=>if p x=true then uO d (g x) else d) d).Nodup/\∀b,b∈l.foldl (λd x=>if p x=true then uO d (g x) else d) d↔b∈d\/∃x∈l,p x=true/\g x=b:=by
  intro l
  induction l with
  | nil=>intro d hd;exact⟨hd,λb=>by simp⟩
  | cons x t ih=>
    intro d hd;rw[List.foldl_cons];by_cases hp:p x=true
    ·rw[if_pos hp];obtain⟨h1,h2⟩:=ih (uO d (g x)) (nodup_insK hd);refine⟨h1,λb=>?_⟩;rw[h2,uV];constructor
     ·rintro((h | rfl) | ⟨y,hy,h3⟩)
      ·exact .inl h
      ·exact .inr ⟨x,List.mem_cons_self ..,hp,rfl⟩
      ·exact .inr ⟨y,List.mem_cons_of_mem _ hy,h3⟩
     ·rintro(h | ⟨y,hy,h3,h4⟩)
      ·exact .inl (.inl h)
      ·rcases List.mem_cons.1 hy with rfl | hy
       ·exact .inl (.inr h4.symm)
       ·exact .inr ⟨y,hy,h3,h4⟩
    ·rw[if_neg hp];obtain⟨h1,h2⟩:=ih d hd;refine⟨h1,λb=>?_⟩;rw[h2];constructor
     ·rintro(h | ⟨y,hy,h3⟩)
      ·exact .inl h
      ·exact .inr ⟨y,List.mem_cons_of_mem _ hy,h3⟩
     ·rintro(h | ⟨y,hy,h3,h4⟩)
      ·exact .inl h
      ·rcases List.mem_cons.1 hy with rfl | hy
       ·exact absurd h3 hp
       ·exact .inr ⟨y,hy,h3,h4⟩
 obtain⟨h1,h2⟩:=h l [] List.nodup_nil;exact⟨h1,λb=>by unfold coll;rw[h2];simp⟩
theorem mem_coll {l:List α}{b:β}:b∈coll p g l↔∃x∈l,p x=true/\g x=b:=(coll_all p g l).2 b
end
def hset (L:List Rec)(κ:Key):List (ByteArray×Int×ByteArray):=coll (λ_=>true) yJ (qJ L κ)
end up
end Go.Proofs.YtpcmilhjpmlbpaaGreatDoor
namespace Go.Proofs.YtpcmilhjpmlbpaaGreatDoor
open Go.RowKit Go.Shelf Go.WideMaps Go.WideElems nm od
namespace up
def bagD (l:List Rec):List Rec:=coll (λ_=>true) id l
theorem bagD_snoc (l:List Rec)(x:Rec):bagD (l ++ [x])=uO (bagD l) x:=by unfold bagD;rw[coll_snoc,if_pos rfl];rfl
theorem mem_bagD {l:List Rec}{x:Rec}:x∈bagD l↔x∈l:=by
 unfold bagD;rw[mem_coll];constructor
 ·rintro⟨y,hy,-,rfl⟩;exact hy
 ·intro h;exact⟨x,h,rfl,rfl⟩
end up
def QA (w:World)(b:Nat)(l:List Rec):Prop:=ug yf YH w b (up.bagD l) (λa=>.int .i64 ((l.count a:Nat):Int))
theorem QA.below {B:Nat}{w w':World}{b:Nat}{l:List Rec}(h:QA w b l)(hb:Below B w w')(hB:b<B):QA w' b l:=ug.below h hb hB
theorem QA.drew {w:World}{b:Nat}{l:List Rec}(h:QA w b l):QA w.drew b l:=ug.keep h λ_ ho=>ho
theorem QA.lt {w:World}{b:Nat}{l:List Rec}(h:QA w b l):b<w.heap.size:=ug.lt h
theorem VT {w:World}{b:Nat}{l:List Rec}(h:QA w b l){x:Rec}(hx:YH x):
 (Instr.lookup 212 (.map (some b)) (yf x) false).run Tryz.prog w= .ok (.int .i64 ((l.count x:Nat):Int)) w/\
 ∃(st:Nat) (w1:World),(Instr.mapEntry 212 (.map (some b)) (yf x)).run Tryz.prog w= .ok (.tuple #[.int .i64 ((l.count x:Nat):Int),.int .i64 (st:Int)]) w1/\w.grownBy w1 (some b)/\
  (Instr.lookup 212 (.map (some b)) (yf x) false).run Tryz.prog w1= .ok (.int .i64 ((l.count x:Nat):Int)) w1/\
  ∃w3,(Instr.entryStore 212 (.map (some b)) (.int .i64 (st:Int)) (.int .i64 (((l.count x:Nat):Int)+1))).run Tryz.prog w1= .ok () w3/\w1.grownBy w3 (some b)/\QA w3 b (l ++ [x]):=by
 have hv:(if x∈up.bagD l then(.int .i64 ((l.count x:Nat):Int):Value) else .int .i64 0)= .int .i64 ((l.count x:Nat):Int):=by
  by_cases hm:x∈up.bagD l
  ·rw[if_pos hm]
  ·rw[if_neg hm,List.count_eq_zero_of_not_mem (λh=>hm (up.mem_bagD.2 h))];rfl
 have hlook:=Q0 recE Tryz.underlying212 Z5 h hx;rw[hv]at hlook;obtain⟨st,w1,h1,h2,_,h4,h5⟩:=K9 recE Tryz.underlying212 Z5 h hx;rw[hv]at h1 h4;have hlook1:=Q0 recE Tryz.underlying212 Z5 h4 hx;rw[if_pos (up.uV.2 (.inr rfl))]at hlook1;have hu:Ya (λa=>(.int .i64 ((l.count a:Nat):Int):Value)) x (.int .i64 ((l.count x:Nat):Int)) x= .int .i64 ((l.count x:Nat):Int):=by simp[Ya]
 rw[hu]at hlook1;obtain⟨w3,g1,g2,_,g3⟩:=h5 w1 (.int .i64 (((l.count x:Nat):Int)+1)) rfl;refine⟨hlook,st,w1,h1,h2,hlook1,w3,g1,g2,?_⟩;unfold QA;rw[up.bagD_snoc];refine g3.congr λa _=>?_;unfold Ya;by_cases e:a=x
 ·subst e;rw[if_pos rfl,List.count_append,List.count_singleton_self];rfl
 ·rw[if_neg e,List.count_append];have:List.count a [x]=0:=List.count_eq_zero_of_not_mem (by simpa using e);rw[this,Nat.add_zero]
attribute [local go_sem] Jm
namespace tr
def xx (l:List Rec)(x:Rec):Int:=df.idx (λy=>decide (x=y)) l
theorem idx_neg {l:List Rec}{x:Rec}:decide (xx l x<0)= !decide (x∈l):=by
 unfold xx df.idx
 cases h:l.findIdx? λy=>decide (x=y) with
 | none=>
   have h1:=List.findIdx?_eq_none_iff.1 h;have:x∉l:=λhm=>by simpa using h1 x hm
   simp[this]
 | some k=>
   obtain⟨hk,hp,-⟩:=List.findIdx?_eq_some_iff_getElem.1 h;have hm:x∈l:=by rw[of_decide_eq_true hp];exact Ht hk
   simp[hm]
end tr
theorem KU (l:List Rec)(hl:l.length<=1000000000)(x0:Rec)(v:Value)(w:World)(hrv:ql w v l):
 Calls Tryz.prog 59 #[v,yf x0] w λe w'=>e= .returned (.int .i64 (tr.xx l x0))/\Below w.heap.size w w':=by
 obtain⟨w0,hw0⟩:=yM (w.alloc (.cells (recC x0).toArray 80));obtain⟨hB0,hs0,hx0⟩:=zf w w0 x0 hw0;obtain⟨b0,hb0⟩:=yM w.heap.size;rw[<- hb0]at hx0;have hb0l:b0<w0.heap.size:=by omega
 have HV:=qe hrv;obtain⟨va,vc,rfl,-⟩:=id hrv;obtain⟨ix,hix⟩:=yM (tr.xx l x0);rw[<- hix];have HIX:=qe hix;have HW0:=qe hw0;have HB00:=qe hb0;have HX0:=qe hx0;have HB0L:=qe hb0l;have HB0:=qe hB0;clear hrv hix hw0 hb0 hx0 hb0l hB0 hs0
 go_enter Tryz.func59,Tryz.ntmps59
 go_upto_region 1 with fail;rw[<- HW0.out,<- HB00.out];go_wp2_with fail
 go_loopw [9] (λkv wr=>∃k:Nat,k<=l.length/\kv= .int .i64 (k:Int)/\Hid ((∀j (hj:j<l.length),j<k->x0≠l[j])/\Below w0.heap.size w0 wr)) (λkv _=>l.length-(intOf kv).toNat)
 case atStart=>exact⟨0,gU _,rfl,qe ⟨λj hj h=>absurd h (Nat.not_lt_zero _),gJ _ _⟩⟩
 case round=>
  obtain⟨k,hk,rfl,HR⟩:=hrel;obtain⟨w3,hw3⟩:=yM wr;subst hw3;by_cases hlt:k<l.length
  ·obtain⟨bb,off,rfl⟩:=jm HV.out (Nat.lt_of_le_of_lt (gU _) hlt);have HB3:=qe (HB0.out.trans (HR.out.2.mono HB0.out.size));have hki:(k:Int)<(l.length:Int):=by omega
   obtain⟨-,c0,c1,c2,c3,c4⟩:=qH (HV.out.below HB3.out) hlt;obtain⟨x,hx⟩:=yM (l[k]);rw[<- hx]at c0 c1 c2 c3 c4;obtain⟨wa,hwa⟩:=yM (w3.alloc (.cells (recC x).toArray 80));obtain⟨hBa,hsa,hxa⟩:=zf w3 wa x hwa;obtain⟨bx,hbx⟩:=yM w3.heap.size;rw[<- hbx]at hxa;have hbxl:bx<wa.heap.size:=by omega
   have HWA:=qe hwa;have HX:=qe hx;have HLT:=qe hlt;have HXA:=qe hxa;have HBX:=qe hbx;have Uk:=qe hbxl;have HAL:=qe hBa;have HBA:=qe (Below.trans HB3.out (hBa.mono (Below.size HB3.out)));clear hwa hx hBa hsa hxa hbx hbxl;go_upto_region 4 with fail;rw[<- HWA.out,<- HBX.out];clear c0 c1 c2 c3 c4 hki;have hb2:=HR.out.2.trans (HAL.out.mono HR.out.2.size);obtain⟨y0,y1,y2,y3,y4⟩:=HX0.out.keep (hb2.block b0 HB0L.out);obtain⟨z0,z1,z2,z3,z4⟩:=id HXA.out;simp only[Nat.zero_add]at y1 y2 y3 y4 z1 z2 z3 z4;have HB4:=qe hb2;clear hb2;by_cases he:x0=x
   ·have HN:=qe (show ix=(k:Int) by
     rw[HIX.out];exact df.UT HLT.out (λj hj hjk=>gp (HR.out.1 j hj hjk)) (gF (he.trans HX.out)))
    subst he;go_wp2_with fail;go_ret;exact⟨qQ HN.out.symm,HB0.out.trans (HB4.out.mono HB0.out.size)⟩
   ·have HN:=qe (show ∀j (hj:j<l.length),j<k+1->x0≠l[j] from λj hj hjk=>by
     rcases Nat.lt_or_ge j k with h | h
     ·exact HR.out.1 j hj h
     ·obtain rfl:j=k:=by omega
      rw[<- HX.out];exact he)
    go_wp2_with fail
    go_roundw
    case rel=>exact⟨k+1,by omega,by go_num,qe ⟨HN.out,HB4.out⟩⟩
    case measure=>simp[intOf];omega
  ·obtain rfl:k=l.length:=by omega
   have HN:=qe (show ix= -1 by
    rw[HIX.out];exact df.Qp λj hj=>gp (HR.out.1 j hj hj))
   have HBE:=qe (HB0.out.trans (HR.out.2.mono HB0.out.size));clear hlt;go_wp2_with fail;go_ret;exact⟨qQ HN.out.symm,HBE.out⟩
end Go.Proofs.YtpcmilhjpmlbpaaGreatDoor
namespace Go.Proofs.YtpcmilhjpmlbpaaGreatDoor
open Go.RowKit Go.Shelf Go.WideMaps Go.WideElems nm od
namespace tr
theorem idx_pos {l:List Rec}{x:Rec}:decide (0<=xx l x)=decide (x∈l):=by
 have h:=idx_neg (l:=l) (x:=x);by_cases hm:x∈l
 ·rw[gF hm]at h ⊢;have:=of_decide_eq_false h;exact gF (by omega)
 ·rw[gp hm]at h ⊢;have:=of_decide_eq_true h;exact gp (by omega)
end tr
theorem VK (l:List Rec)(hl:l.length<=1000000000)(x0:Rec)(v:Value)(w:World)(hrv:ql w v l):
 Calls Tryz.prog 141 #[v,yf x0] w λe w'=>e= .returned (.int .i64 (tr.xx l x0))/\Below w.heap.size w w':=by
 obtain⟨w0,hw0⟩:=yM (w.alloc (.cells (recC x0).toArray 80));obtain⟨hB0,hs0,hx0⟩:=zf w w0 x0 hw0;obtain⟨b0,hb0⟩:=yM w.heap.size;rw[<- hb0]at hx0;have hb0l:b0<w0.heap.size:=by omega
 have HV:=qe hrv;obtain⟨va,vc,rfl,-⟩:=id hrv;obtain⟨ix,hix⟩:=yM (tr.xx l x0);rw[<- hix];have HIX:=qe hix;have HW0:=qe hw0;have HB00:=qe hb0;have HX0:=qe hx0;have HB0L:=qe hb0l;have HB0:=qe hB0;clear hrv hix hw0 hb0 hx0 hb0l hB0 hs0
 go_enter Tryz.func141,Tryz.ntmps141
 go_upto_region 1 with fail;rw[<- HW0.out,<- HB00.out];go_wp2_with fail
 go_loopw [8] (λkv wr=>∃k:Nat,k<=l.length/\kv= .int .i64 (k:Int)/\Hid ((∀j (hj:j<l.length),j<k->x0≠l[j])/\Below w0.heap.size w0 wr)) (λkv _=>l.length-(intOf kv).toNat)
 case atStart=>exact⟨0,gU _,rfl,qe ⟨λj hj h=>absurd h (Nat.not_lt_zero _),gJ _ _⟩⟩
 case round=>
  obtain⟨k,hk,rfl,HR⟩:=hrel;obtain⟨w3,hw3⟩:=yM wr;subst hw3;by_cases hlt:k<l.length
  ·obtain⟨bb,off,rfl⟩:=jm HV.out (Nat.lt_of_le_of_lt (gU _) hlt);have HB3:=qe (HB0.out.trans (HR.out.2.mono HB0.out.size));have hki:(k:Int)<(l.length:Int):=by omega
   obtain⟨-,c0,c1,c2,c3,c4⟩:=qH (HV.out.below HB3.out) hlt;obtain⟨x,hx⟩:=yM (l[k]);rw[<- hx]at c0 c1 c2 c3 c4;obtain⟨y0,y1,y2,y3,y4⟩:=HX0.out.keep (HR.out.2.block b0 HB0L.out);simp only[Nat.zero_add]at y1 y2 y3 y4;have HX:=qe hx;have HLT:=qe hlt;clear hx;go_upto_region 4 with fail;refine qp (by kernel_rfl) (by kernel_rfl) ?_;have e0:=qh c0;have e1:=qh c1;have e2:=qh c2;have e3:=qh c3;have e4:=qh c4;have f0:=qh y0;have f1:=qh y1;have f2:=qh y2;have f3:=qh y3;have f4:=qh y4
   repeat (with_reducible refine Hu (λK hK=>?_);go_simp;first | (with_reducible refine hK _ ?_;clear hK K))
   with_reducible refine Hu (λK hK=>?_)
   go_simp
   refine⟨.bool (decide (x0=x)),λ_=>?_,hK _ ?_⟩
   ·rw[Jm];by_cases h:x0=x
    ·rw[if_pos h,gF h];exact⟨rfl,rfl⟩
    ·rw[if_neg h,gp h];exact⟨rfl,rfl⟩
   clear hK K
   with_reducible refine Hw ?_
   intro U hU;have hBU:Below w3.heap.size w3 U:=by obtain⟨p,rfl⟩:=hU;exact qD _ p
   have HB4:=qe (HR.out.2.trans (hBU.mono HR.out.2.size));clear hU hBU e0 e1 e2 e3 e4 f0 f1 f2 f3 f4 c0 c1 c2 c3 c4 y0 y1 y2 y3 y4;by_cases he:x0=x
   ·have HN:=qe (show ix=(k:Int) by
     rw[HIX.out];exact df.UT HLT.out (λj hj hjk=>gp (HR.out.1 j hj hjk)) (gF (he.trans HX.out)))
    rw[gF he];clear he;go_wp2_with fail;go_ret;exact⟨qQ HN.out.symm,HB0.out.trans (HB4.out.mono HB0.out.size)⟩
   ·have HN:=qe (show ∀j (hj:j<l.length),j<k+1->x0≠l[j] from λj hj hjk=>by
     rcases Nat.lt_or_ge j k with h | h
     ·exact HR.out.1 j hj h
     ·obtain rfl:j=k:=by omega
      rw[<- HX.out];exact he)
    rw[gp he];clear he;go_wp2_with fail
    go_roundw
    case rel=>exact⟨k+1,by omega,by go_num,qe ⟨HN.out,HB4.out⟩⟩
    case measure=>simp[intOf];omega
  ·obtain rfl:k=l.length:=by omega
   have HN:=qe (show ix= -1 by
    rw[HIX.out];exact df.Qp λj hj=>gp (HR.out.1 j hj hj))
   have HBE:=qe (HB0.out.trans (HR.out.2.mono HB0.out.size));clear hlt;go_wp2_with fail;go_ret;exact⟨qQ HN.out.symm,HBE.out⟩
theorem contains_any (l:List Rec)(hl:l.length<=1000000000)(x0:Rec)(v:Value)(w:World)(hrv:ql w v l):
 Calls Tryz.prog 142 #[v,yf x0] w λe w'=>e= .returned (.bool (decide (x0∈l)))/\Below w.heap.size w w':=by
 obtain⟨w0,hw0⟩:=yM (w.alloc (.cells (recC x0).toArray 80));obtain⟨hB0,hs0,hx0⟩:=zf w w0 x0 hw0;obtain⟨b0,hb0⟩:=yM w.heap.size;rw[<- hb0]at hx0;have hI:=VK l hl x0 v w0 (hrv.below hB0);have hd:=tr.idx_pos (l:=l) (x:=x0);obtain⟨ix,hix⟩:=yM (tr.xx l x0);rw[<- hix]at hI hd;obtain⟨t,ht⟩:=yM (decide (x0∈l));rw[<- ht]at hd ⊢;obtain⟨va,vc,rfl,-⟩:=id hrv;obtain⟨y0,y1,y2,y3,y4⟩:=id hx0;simp only[Nat.zero_add]at y1 y2 y3 y4;have HI:=qe hI;have HW0:=qe hw0;have HB00:=qe hb0;have HB0:=qe hB0;clear hrv hI hix ht hw0 hb0 hx0 hB0 hs0
 go_enter Tryz.func142,Tryz.ntmps142
 go_upto_region 1 with fail;rw[<- HW0.out,<- HB00.out];go_wp2_with fail;refine HI.out.mono ?_;rintro e w1 ⟨rfl,hB1⟩;have HB1:=qe (gm HB0.out hB1);have HD:=qe hd;clear hB1 y0 y1 y2 y3 y4 hd;go_wp2_with fail;go_ret;exact⟨qI HD.out,HB1.out⟩
end Go.Proofs.YtpcmilhjpmlbpaaGreatDoor
