import Derived.Test.YtpcmilhjpmlbpaaGreatDoorQZoneC
import Derived.Deep.RegionHeld3
import Derived.Maps.Range
set_option maxRecDepth 100000
set_option maxHeartbeats 4000000
namespace Go.Proofs.YtpcmilhjpmlbpaaGreatDoor
open Go.RowKit Go.Shelf Go.WideMaps nm
theorem jM:(Tryz.prog.info? 80).map (fun i=>(i.zero,i.size,i.bytes))=some (some (.agg #[.string ⟨#[]⟩,.int .i64 0,.int .i64 0,.int .i64 0,.string ⟨#[]⟩]),5,56):=by kernel_rfl
theorem gather_any (qg:ByteArray)(hap:qo qg=true)(l:List Rec)(hl:l.length≤2000)(hok:∀r∈l,qo r.owner=true∧(Lit.int .i64 r.typ).wf=true)(z:Nat)(rv sv tv:Value)(w:World)
 (hz:kI w z qg rv sv tv) (hrec:∀w',w.grownBy w' (some z)→qm w' rv l):
 Calls Tryz.prog 77 #[.pointer (some ⟨z,0,none⟩)] w fun e w'=>e= .returned (.tuple #[])∧w.grownBy w' (some z)∧∃sb tb,w.heap.size≤sb∧w.heap.size≤tb∧sb≠tb∧
  kI w' z qg rv (.map (some sb)) (.map (some tb))∧yC w' w.heap.size sb (zn.Ql l) (zn.qI l)∧yx w' tb (zn.UG (qK qg).toNat l):=by
 have hzl:=qA hz;obtain⟨a,cap,rfl,hcap,_⟩:=hrec w (World.grownBy.refl w _);obtain⟨wx,hwx⟩:∃W,W=((w.setCell ⟨z,2,none⟩ (.map (some w.heap.size))).setCell ⟨z,3,none⟩ (.map (some (w.heap.size+1)))):=⟨_,rfl⟩;have hsx:wx.heap.size=w.heap.size:=by rw[hwx];simp[World.setCell]
 have hzx:kI wx z qg (.slice a l.length cap) (.map (some w.heap.size)) (.map (some (w.heap.size+1))):=by
  rw[hwx];exact qC (qC hz 2 _) 3 _
 have hgx:w.grownBy wx (some z):=by
  rw[hwx];exact(grownBy_setCell _ ⟨z,2,none⟩ _).trans (grownBy_setCell _ ⟨z,3,none⟩ _)
 obtain⟨w0,hw0⟩:∃W,W=(wx.alloc (.map #[] 0)).alloc (.map #[] 0):=⟨_,rfl⟩;have hs0:w0.heap.size=w.heap.size+2:=by rw[hw0];simp[hsx]
 have hz0:kI w0 z qg (.slice a l.length cap) (.map (some w.heap.size)) (.map (some (w.heap.size+1))):=by
  rw[hw0];exact zg (zg hzx (.map #[] 0)) (.map #[] 0)
 have hg0:w.grownBy w0 (some z):=by
  rw[hw0];exact(hgx.trans (World.grownBy_alloc _ _ _)).trans (World.grownBy_alloc _ _ _)
 have hS0:yC w0 w.heap.size w.heap.size (zn.Ql (l.take 0)) (zn.qI (l.take 0)):=by
  rw[hw0];have h1:=yC.made wx w.heap.size (zn.qI (l.take 0));rw[hsx]at h1;exact h1.alloc _
 have hT0:yx w0 (w.heap.size+1) (zn.UG (qK qg).toNat (l.take 0)):=by
  rw[hw0];have h1:=yx.made (wx.alloc (.map #[] 0));have h2:(wx.alloc (.map #[] 0)).heap.size=w.heap.size+1:=by simp[hsx]
  rw[h2]at h1;exact h1
 have hrecs:∀W,Below w.heap.size w0 W→qm W (.slice a l.length cap) l:=fun W hb=>hrec W ⟨hb.os.trans hg0.os,hb.tape.trans hg0.tape,hb.output.trans hg0.output,by have:=hb.size;omega,fun k hk hne=>(hb.block k hk).trans (hg0.block k hk hne)⟩;have hzc:w.cell? ⟨z,2,none⟩=some sv:=by rw[qh hz];rfl
 have hzd:w.cell? ⟨z,3,none⟩=some tv:=by rw[qh hz];rfl
 have hzh:w.frozen? ⟨z,2,none⟩=false:=qE hz 2;have hzi:w.frozen? ⟨z,3,none⟩=false:=qE hz 3;have hmm:=@run_makeMap Tryz.prog;have hzr:w.cell? ⟨z,1,none⟩=some (.slice a l.length cap):=by rw[qh hz];rfl
 have HW:=qe hw0;have HX:=qe hwx;have HREC:=qe hrecs;have HZ0:=qe hz0;have HG0:=qe hg0;have HS0:=qe hS0;have HT0:=qe hT0;have HOK:=qe hok;have HZ:=qe hz;clear hz hrec hz0 hg0 hS0 hT0 hrecs hok hw0 hwx hzx hgx
 go_enter Tryz.func77,Tryz.ntmps77
 go_wp2_with fail;rw[← HX.out,← HW.out];clear hzc hzd hzh hzi hzr hmm
 go_loopw [20,3,4,5,6] (fun kv _ _ _ _ wr=>∃k:Nat,k≤l.length∧kv= .int .i64 k∧Below w.heap.size w0 wr∧yC wr w.heap.size w.heap.size (zn.Ql (l.take k)) (zn.qI (l.take k))∧yx wr (w.heap.size+1) (zn.UG (qK qg).toNat (l.take k))) (fun kv _ _ _ _ _=>l.length-(intOf kv).toNat)
 case atStart=>exact⟨0,Nat.zero_le _,rfl,Below.refl _ _,HS0.out,HT0.out⟩
 case round=>
  obtain⟨k,hk,rfl,hB,hS,hT⟩:=hrel;by_cases hlt:k<l.length
  ·obtain⟨a',cap',hv,_,hr⟩:=HREC.out wr hB;simp only[Value.slice.injEq,true_and]at hv;obtain⟨rfl,rfl⟩:=hv;obtain⟨b,off,rfl,hbl,c0,c1,c2,c3,c4⟩:=hr k hlt;obtain⟨hck,hty⟩:=HOK.out l[k] (List.getElem_mem hlt);have hBW:=hB;have HB:=qe hB;have HS:=qe hS;have HT:=qe hT;have HCK:=qe hck;have HTY:=qe hty;have hzw:w.heap.size≤wr.heap.size:=by have:=hB.size;omega
   clear hr hB hS hT hck hty hBW;go_wp2_with fail;refine(kM _ _).mono ?_;rintro e w2 ⟨rfl,hB2⟩;have k0:=(hB2.cell (p:=⟨wr.heap.size,0,none⟩) (by simp)).trans (qZ wr l[k] 80 0 _ rfl);have k1:=(hB2.cell (p:=⟨wr.heap.size,1,none⟩) (by simp)).trans (qZ wr l[k] 80 1 _ rfl);have k2:=(hB2.cell (p:=⟨wr.heap.size,2,none⟩) (by simp)).trans (qZ wr l[k] 80 2 _ rfl);have k3:=(hB2.cell (p:=⟨wr.heap.size,3,none⟩) (by simp)).trans (qZ wr l[k] 80 3 _ rfl);have k4:=(hB2.cell (p:=⟨wr.heap.size,4,none⟩) (by simp)).trans (qZ wr l[k] 80 4 _ rfl);have hs2:wr.heap.size+1≤w2.heap.size:=by have:=hB2.size;simpa using this
   have hBr2:Below wr.heap.size wr w2:=((Below.refl _ wr).alloc (Nat.le_refl _) _).trans (hB2.mono (by simp));have HB2:=qe hBr2;clear c0 c1 c2 c3 c4 hB2 hBr2;obtain⟨low,hlow⟩:∃s,s=qx l[k].owner:=⟨_,rfl⟩;rw[← hlow];obtain⟨w3,hw3⟩:∃W,W=w2.alloc (.cells #[.string low,.int .i64 l[k].typ] 140):=⟨_,rfl⟩;have m0:w3.cell? ⟨w2.heap.size,0,none⟩=some (.string low):=by rw[hw3,qh (qz rfl)];rfl
   have m1:w3.cell? ⟨w2.heap.size,1,none⟩=some (.int .i64 l[k].typ):=by rw[hw3,qh (qz rfl)];rfl
   have n0:w3.cell? ⟨wr.heap.size,0,none⟩=some (.string l[k].owner):=by rw[hw3];exact qw _ k0
   have n1:w3.cell? ⟨wr.heap.size,1,none⟩=some (.int .i64 l[k].typ):=by rw[hw3];exact qw _ k1
   have n2:w3.cell? ⟨wr.heap.size,2,none⟩=some (.int .i64 l[k].cls):=by rw[hw3];exact qw _ k2
   have n3:w3.cell? ⟨wr.heap.size,3,none⟩=some (.int .i64 l[k].ttl):=by rw[hw3];exact qw _ k3
   have n4:w3.cell? ⟨wr.heap.size,4,none⟩=some (.string l[k].data):=by rw[hw3];exact qw _ k4
   have hs3:w3.heap.size=w2.heap.size+1:=by rw[hw3];simp
   have hBr3:Below wr.heap.size wr w3:=by rw[hw3];exact HB2.out.alloc (by omega) _
   have hz3:w3.cell? ⟨z,2,none⟩=some (.map (some w.heap.size)):=by
    rw[hBr3.cell (by show z<wr.heap.size;omega),HB.out.cell (by show z<w.heap.size;omega),qh HZ0.out];rfl
   have HW3:=qe hw3;have YZ:=qe hlow;have HB3:=qe hBr3;clear hw3 hlow hBr3;go_wp2_with fail;rw[← HW3.out];clear k0 k1 k2 k3 k4;obtain⟨wa,hwa⟩:∃W,W=(w3.alloc (.cells #[.string l[k].owner,.int .i64 l[k].typ,.int .i64 l[k].cls,.int .i64 l[k].ttl,.string l[k].data] 80)).drew:=⟨_,rfl⟩;have hsa:wa.heap.size=w3.heap.size+1:=by rw[hwa];simp
   have hBa:Below w3.heap.size w3 wa:=by rw[hwa];exact((Below.refl _ w3).alloc (Nat.le_refl _) _).drew
   have hκ:JB (low,l[k].typ):=⟨by have:=fold_size l[k].owner;rw[← YZ.out]at this;show low.size≤maxLen;unfold maxLen;omega,HTY.out⟩;obtain⟨v,n,old,st,w4,hrun4,hg4,jX,hold,hn,hvb,hsb,hnF,hstep⟩:=sets_entry (w:=wa) HS.out (fun b hb=>(hBa.block b (by omega)).trans ((HB3.out.block b hb))) hκ l[k];have far4:∀(x:Addr) u,x.block<w3.heap.size→x.block≠w.heap.size→w3.cell? x=some u→w4.cell? x=some u:=fun x u h1 h2 h3=>by
    rw[hg4.cell_far x (by omega) (by simpa using h2),hBa.cell h1];exact h3
   have q0:=far4 ⟨z,2,none⟩ _ (by show z<_;omega) (by show z≠_;omega) hz3;have q1:=far4 ⟨w2.heap.size,0,none⟩ _ (by show w2.heap.size<_;omega) (by show w2.heap.size≠_;omega) m0;have q2:=far4 ⟨w2.heap.size,1,none⟩ _ (by show w2.heap.size<_;omega) (by show w2.heap.size≠_;omega) m1;have q3:=far4 ⟨wr.heap.size,0,none⟩ _ (by show wr.heap.size<_;omega) (by show wr.heap.size≠_;omega) n0;have q4:=far4 ⟨wr.heap.size,1,none⟩ _ (by show wr.heap.size<_;omega) (by show wr.heap.size≠_;omega) n1;have q5:=far4 ⟨wr.heap.size,2,none⟩ _ (by show wr.heap.size<_;omega) (by show wr.heap.size≠_;omega) n2;have q6:=far4 ⟨wr.heap.size,3,none⟩ _ (by show wr.heap.size<_;omega) (by show wr.heap.size≠_;omega) n3;have q7:=far4 ⟨wr.heap.size,4,none⟩ _ (by show wr.heap.size<_;omega) (by show wr.heap.size≠_;omega) n4;rw[hwa]at hrun4;have hn2:n≤2000:=by
    have h1:(zn.qI (l.take k) (low,l[k].typ)).length≤(l.take k).length:=List.length_filter_le _ _;have h2:(l.take k).length≤l.length:=by simp;omega
    omega
   have hs4:w3.heap.size+1≤w4.heap.size:=by have:=hg4.size;omega
   have hnews:∀j u,(recC l[k])[j]? =some u→w4.cell? ((⟨w2.heap.size+1,0,none⟩:Addr).add j)=some u:=fun j u hu=>by
    rw[← hs3];have h1:wa.cell? ((⟨w3.heap.size,0,none⟩:Addr).add j)=some u:=by
     rw[hwa];exact j3 w3 (recC l[k]) _ j u hu
    rw[hg4.cell_far _ (by rw[Addr.add_lit];show w3.heap.size<_;omega) (by rw[Addr.add_lit];simp;omega)];exact h1
   have J7:∀(w5:World),w4.grownBy w5 v.ownBlock→∀(x:Addr) u,x.block<w4.heap.size→(x.block<w.heap.size∨wr.heap.size≤x.block)→w4.cell? x=some u→w5.cell? x=some u:=fun w5 hg x u h1 h2 h3=>by
    rw[hg.cell_far x h1 (fun e=>by obtain⟨e1,e2,e3⟩:=hvb _ e.symm;omega)];exact h3
   have J6:∀(w5 w6:World),w5.grownBy w6 (some w.heap.size)→∀(x:Addr) u,x.block<w5.heap.size→x.block≠w.heap.size→w5.cell? x=some u→w6.cell? x=some u:=fun w5 w6 hg x u h1 h2 h3=>by
    rw[hg.cell_far x h1 (by simpa using h2)];exact h3
   obtain⟨i0,hi0,hzz0,hzz1,hzz2⟩:=info_parts jM;have kR:=qe hnews;have HF5:=qe J7;have HF6:=qe J6;clear hnews J7 J6;have HG4:=qe hg4;have HOWN4:=qe jX;have HSTEP:=qe hstep;have HVB:=qe hvb;have HOLD:=qe hold;have HN:=qe hn;have HBA:=qe hBa;have HF4:=qe far4;have HWA:=qe hwa;clear hg4 jX hstep hvb hold hn hBa far4 hwa
   go_region_held3 (fun W=>W.cell? ⟨z,2,none⟩=some (.map (some w.heap.size))∧W.cell? ⟨w2.heap.size,0,none⟩=some (.string low)∧W.cell? ⟨w2.heap.size,1,none⟩=some (.int .i64 l[k].typ)∧
    W.cell? ⟨wr.heap.size,0,none⟩=some (.string l[k].owner)∧W.cell? ⟨wr.heap.size,1,none⟩=some (.int .i64 l[k].typ)∧W.cell? ⟨wr.heap.size,2,none⟩=some (.int .i64 l[k].cls)∧
    W.cell? ⟨wr.heap.size,3,none⟩=some (.int .i64 l[k].ttl)∧W.cell? ⟨wr.heap.size,4,none⟩=some (.string l[k].data))
    (first | (refine⟨?_,?_,?_,?_,?_,?_,?_,?_⟩ <;> assumption) | go_keep)
    (first | (refine step_append_lies _ (by rfl) _ _ _ (by rfl) w.heap.size 80 i0 _ 5 56 Tryz.underlying31 hi0 hzz0 hzz1 hzz2 rfl (by omega) v n (qp old) (by rfl) HOWN4.out ⟨w2.heap.size+1,0,none⟩ 1 1 (recC l[k]) (by rfl) (by rfl) kR.out (by simp[Value.oneCell']) (by omega) (by unfold maxLen;omega) (by omega) (by omega) w4.heap.size rfl ?_
              intro g cap w5 hown5 Qy hat5 hlt5;obtain⟨w6,hrun6,hg6,hS6⟩:=HSTEP.out g cap w5 hown5 Qy hat5;have pq0:=HF5.out w5 Qy ⟨z,2,none⟩ _ (by show z<w4.heap.size;omega) (by show z<w.heap.size∨wr.heap.size≤z;omega) q0;have pq1:=HF5.out w5 Qy ⟨w2.heap.size,0,none⟩ _ (by show w2.heap.size<w4.heap.size;omega) (by show w2.heap.size<w.heap.size∨wr.heap.size≤w2.heap.size;omega) q1;have pq2:=HF5.out w5 Qy ⟨w2.heap.size,1,none⟩ _ (by show w2.heap.size<w4.heap.size;omega) (by show w2.heap.size<w.heap.size∨wr.heap.size≤w2.heap.size;omega) q2;have pq3:=HF5.out w5 Qy ⟨wr.heap.size,0,none⟩ _ (by show wr.heap.size<w4.heap.size;omega) (by show wr.heap.size<w.heap.size∨wr.heap.size≤wr.heap.size;omega) q3;have pq4:=HF5.out w5 Qy ⟨wr.heap.size,1,none⟩ _ (by show wr.heap.size<w4.heap.size;omega) (by show wr.heap.size<w.heap.size∨wr.heap.size≤wr.heap.size;omega) q4;have pq5:=HF5.out w5 Qy ⟨wr.heap.size,2,none⟩ _ (by show wr.heap.size<w4.heap.size;omega) (by show wr.heap.size<w.heap.size∨wr.heap.size≤wr.heap.size;omega) q5;have pq6:=HF5.out w5 Qy ⟨wr.heap.size,3,none⟩ _ (by show wr.heap.size<w4.heap.size;omega) (by show wr.heap.size<w.heap.size∨wr.heap.size≤wr.heap.size;omega) q6;have pq7:=HF5.out w5 Qy ⟨wr.heap.size,4,none⟩ _ (by show wr.heap.size<w4.heap.size;omega) (by show wr.heap.size<w.heap.size∨wr.heap.size≤wr.heap.size;omega) q7;have hs5:=Qy.size;have rq0:=HF6.out w5 w6 hg6 ⟨z,2,none⟩ _ (by show z<w5.heap.size;omega) (by show z≠w.heap.size;omega) pq0;have rq1:=HF6.out w5 w6 hg6 ⟨w2.heap.size,0,none⟩ _ (by show w2.heap.size<w5.heap.size;omega) (by show w2.heap.size≠w.heap.size;omega) pq1;have rq2:=HF6.out w5 w6 hg6 ⟨w2.heap.size,1,none⟩ _ (by show w2.heap.size<w5.heap.size;omega) (by show w2.heap.size≠w.heap.size;omega) pq2;have rq3:=HF6.out w5 w6 hg6 ⟨wr.heap.size,0,none⟩ _ (by show wr.heap.size<w5.heap.size;omega) (by show wr.heap.size≠w.heap.size;omega) pq3;have rq4:=HF6.out w5 w6 hg6 ⟨wr.heap.size,1,none⟩ _ (by show wr.heap.size<w5.heap.size;omega) (by show wr.heap.size≠w.heap.size;omega) pq4;have rq5:=HF6.out w5 w6 hg6 ⟨wr.heap.size,2,none⟩ _ (by show wr.heap.size<w5.heap.size;omega) (by show wr.heap.size≠w.heap.size;omega) pq5;have rq6:=HF6.out w5 w6 hg6 ⟨wr.heap.size,3,none⟩ _ (by show wr.heap.size<w5.heap.size;omega) (by show wr.heap.size≠w.heap.size;omega) pq6;have rq7:=HF6.out w5 w6 hg6 ⟨wr.heap.size,4,none⟩ _ (by show wr.heap.size<w5.heap.size;omega) (by show wr.heap.size≠w.heap.size;omega) pq7;have HG5:=qe Qy;have HG6:=qe hg6;have HS6:=qe hS6;clear hown5 Qy hat5 hlt5 hg6 hS6))
   have hB6:Below w.heap.size w0 w6:=by
    have h1:Below w.heap.size w0 wa:=(HB.out.trans (HB3.out.mono hzw)).trans (HBA.out.mono (by omega));have h2:=h1.grown HG4.out (by omega) (fun j e=>by cases e;exact Nat.le_refl _);have h3:=h2.grown HG5.out (by omega) (fun j e=>(HVB.out j e).1);exact h3.grown HG6.out (by omega) (fun j e=>by cases e;exact Nat.le_refl _)
   have hS7:yC w6 w.heap.size w.heap.size (zn.Ql (l.take (k+1))) (zn.qI (l.take (k+1))):=by
    have h1:=HS6.out;have h2:(low,l[k].typ)=zn.yg l[k]:=by rw[YZ.out];rfl
    rw[HOLD.out,h2]at h1;rw[List.take_succ_eq_append_getElem hlt];exact h1.next
   have hT6:yx w6 (w.heap.size+1) (zn.UG (qK qg).toNat (l.take k)):=by
    have h1:yx wa (w.heap.size+1) (zn.UG (qK qg).toNat (l.take k)):=HT.out.keep fun hb=>(HBA.out.block _ (by omega)).trans (HB3.out.block _ hb);have h2:=h1.grown HG4.out (by simp);have h3:=h2.grown HG5.out (fun e=>by
     obtain⟨es,c,hm⟩:=h2.Q5;exact jI HOWN4.out hm e)
    exact h3.grown HG6.out (by simp)
   have hs6:w3.heap.size≤w6.heap.size:=by have h1:=HG5.out.size;have h2:=HG6.out.size;omega
   have HB6:=qe hB6;have HS7:=qe hS7;have HT6:=qe hT6;clear hB6 hS7 hT6 hrun4 hrun6 m0 m1 n0 n1 n2 n3 n4 hz3 q0 q1 q2 q3 q4 q5 q6 q7 pq0 pq1 pq2 pq3 pq4 pq5 pq6 pq7;clear HG4 HOWN4 HSTEP HVB HOLD HN HBA HF4 HWA kR HF5 HF6 HG5 HG6 HS6 hi0 hzz0 hzz1 hzz2;go_wp2_with fail;refine(signs_any _ _).mono ?_;rintro e w7 ⟨rfl,hB7⟩;have hz7:=(hB7.block z (by omega)).trans ((HB6.out.block z hzl).trans HZ0.out);have z3:w7.cell? ⟨z,3,none⟩=some (.map (some (w.heap.size+1))):=by rw[qh hz7];rfl
   have HB7:=qe (HB6.out.trans (hB7.mono (by omega)));have HS7:=qe (HS7.out.below hB7);have HT7:=qe (HT6.out.below hB7);have hs7:w6.heap.size≤w7.heap.size:=hB7.size;have HZ7:=qe hz7;clear hB7 hz7
   cases hsg:zn.Qx l[k]
   ·have hlz:low.size≤maxLen:=by have:=fold_size l[k].owner;rw[← YZ.out]at this;unfold maxLen;omega
    obtain⟨x,hx,hup⟩:=VL HT7.out hlz;obtain⟨w8,hu,hg8,hT8⟩:=hup (wrap64 (x+1));have hS8:=HS7.out.grownMap hg8 HT7.out.Q5 (by omega);have hB8:=HB7.out.grown hg8 (by omega) (fun j e=>by cases e;omega);have HS8:=qe hS8;have HT8:=qe hT8;have HB8:=qe hB8;have HSG:=qe hsg;obtain⟨ls0,hls0⟩:=yN HCK.out;obtain⟨ls,hls⟩:∃ls,rows low=some ls:=⟨_,by rw[YZ.out];exact vH hls0⟩;obtain⟨la,hla⟩:=yN hap;have hca:qK qg=la.length:=Qo hla;have HLS:=qe hls;have HCA:=qe hca;clear hup hg8 hT8 hS8 hB8 hsg hls0 hls hla hca;go_wp2_with fail;clear hx hu;obtain⟨wo,hwo⟩:∃wo,wo=wr:=⟨_,rfl⟩;subst hwo
    go_loopw [6] (fun nv wr=>∃q:Nat,q≤ls.length∧(la.length≤q∨q=ls.length)∧nv= .string (zQ low (q:Int))∧Below w.heap.size w0 wr∧yC wr w.heap.size w.heap.size (zn.Ql (l.take (k+1))) (zn.qI (l.take (k+1)))∧
     yx wr (w.heap.size+1) (zn.Vs (zn.UG (qK qg).toNat (l.take k)) (zn.Jc low ls.length q))) (fun nv _=>match nv with | .string s=>(qK s).toNat | _=>0)
    case atStart=>exact⟨ls.length,Nat.le_refl _,.inr rfl,by rw[JG HLS.out],HB8.out,HS8.out,by rw[zn.partU_top (JG HLS.out)];exact HT8.out⟩
    case round=>
     obtain⟨q,hq,hqc,rfl,hBq,hSq,hTq⟩:=hrel;have hzq:=(hBq.block z hzl).trans HZ0.out;have z0:wr.cell? ⟨z,0,none⟩=some (.string qg):=by rw[qh hzq];rfl
     have z3:wr.cell? ⟨z,3,none⟩=some (.map (some (w.heap.size+1))):=by rw[qh hzq];rfl
     have e0:=qf z0;have hct:qK (zQ low (q:Int))=(q:Int):=count_tail HLS.out (by omega) (by omega);have HBQ:=qe hBq;have HSQ:=qe hSq;have HTQ:=qe hTq;have HCT:=qe hct;have HZQ:=qe hzq;clear hBq hSq hTq hct z0 hzq;go_wp2_with fail;refine ql (by kernel_rfl) (by kernel_rfl) ?_
     repeat (refine wpQuiet_step (fun K hK=>?_);go_simp;first | (refine hK _ ?_;clear hK K) | (apply Exists.intro;refine⟨fun _=>?_,hK _ ?_⟩;(first | (go_at_call 115;exact qV (Yq _ _)));clear hK K))
     refine wpQuiet_nil ?_;intro W hW;rw[HCT.out,HCA.out];have hBW:Below wr.heap.size wr W:=by obtain⟨p,rfl⟩:=hW;exact qB wr p
     clear hW e0;have hsw:=HBQ.out.size;have hB9:=HBQ.out.trans (hBW.mono (by omega));have hS9:=HSQ.out.below hBW;have hT9:=HTQ.out.below hBW;have z3w:W.cell? ⟨z,3,none⟩=some (.map (some (w.heap.size+1))):=(hBW.cell (p:=⟨z,3,none⟩) (by show z<_;omega)).trans z3;have hszW:=hBW.size;have HB9:=qe hB9;have HS9:=qe hS9;have HT9:=qe hT9;clear hB9 hS9 hT9 hBW z3 HBQ HSQ HTQ;by_cases hlq:la.length<q
     ·have hpar:Un (zQ low (q:Int))=zQ low ((q-1:Nat):Int):=by
       rw[VU HLS.out (by omega) (by omega)]
       congr 1
       omega
      have HPAR:=qe hpar;clear hpar;go_wp2_with fail;refine(parent_any _ _).mono ?_;rintro e wp ⟨rfl,hBp⟩;rw[HPAR.out];have z3p:wp.cell? ⟨z,3,none⟩=some (.map (some (w.heap.size+1))):=(hBp.cell (p:=⟨z,3,none⟩) (by show z<_;omega)).trans z3w;have hnz:(zQ low ((q-1:Nat):Int)).size≤maxLen:=by
       have:=(yf (uo HLS.out (k:=((q-1:Nat):Int)) (by omega) (by omega)).2).1;unfold maxLen;omega
      have hTp:=HT9.out.below hBp;obtain⟨y,hy,hup⟩:=VL hTp hnz;obtain⟨wq,hu,hgq,hTq⟩:=hup (wrap64 y);have hSq:=(HS9.out.below hBp).grownMap hgq hTp.Q5 (by omega);have hBq:=(HB9.out.trans (hBp.mono (by omega))).grown hgq (by have:=hBp.size;omega) (fun j e=>by cases e;omega);have HTQ:=qe hTq;have HSQ:=qe hSq;have HBQ:=qe hBq;clear hup hgq hTq hSq hBq hTp hBp z3w hnz;go_wp2_with fail
      go_roundw
      case rel=>
       refine⟨q-1,by omega,by omega,rfl,HBQ.out,HSQ.out,?_⟩;rw[zn.partU_next (by omega) hq,zn.insAll_app];exact HTQ.out
      case measure=>
       show(qK (zQ low ((q-1:Nat):Int))).toNat<(qK (zQ low (q:Int))).toNat;rw[count_tail HLS.out (by omega) (by omega),count_tail HLS.out (by omega) (by omega)];omega
     ·go_wp2_with fail
      go_roundw
      case rel=>
       refine⟨k+1,by omega,by go_num,HB9.out,HS9.out,?_⟩;rw[List.take_succ_eq_append_getElem hlt,zn.domT_app,HSG.out,if_neg (by simp)];have h1:=HT9.out;rw[zn.partU_end hq (by omega) hqc,← zn.ups_part (Qo HLS.out),]at h1;rw[HCA.out]at h1 ⊢;rw[YZ.out]at h1;exact h1
      case measure=>simp[intOf];omega
   ·have HSG:=qe hsg;clear hsg;go_wp2_with fail
    go_roundw
    case rel=>exact⟨k+1,by omega,by go_num,HB7.out,HS7.out,by rw[List.take_succ_eq_append_getElem hlt,zn.domT_app,if_pos HSG.out];exact HT7.out⟩
    case measure=>simp[intOf];omega
  ·have hke:k=l.length:=by omega
   subst hke;have hzq:=(hB.block z hzl).trans HZ0.out;rw[List.take_length]at hS hT;have hgf:w.grownBy wr (some z):=⟨hB.os.trans HG0.out.os,hB.tape.trans HG0.out.tape,hB.output.trans HG0.out.output,by have:=hB.size;omega,fun j hj hne=>(hB.block j hj).trans (HG0.out.block j hj hne)⟩;have HS:=qe hS;have HT:=qe hT;have HZ:=qe hzq;have HG:=qe hgf;clear hS hT hzq hgf hB;go_wp2_with fail
   go_end0
   exact⟨rfl,HG.out,_,_,Nat.le_refl _,Nat.le_succ _,by omega,HZ.out,HS.out,HT.out⟩
def zo {α:Type} [DecidableEq α] (zh:α→Value)(Kok:α→Prop)(w:World)(b:Nat)(f:α→Int):Prop:=
 ∃(dom:List α) (g:α→Int),kY zh Kok w b dom (fun a=>.int .i64 (g a))∧∀a,f a=if a∈dom then g a else 0
section
variable {α:Type} [DecidableEq α] {zh:α→Value}{Kok:α→Prop}{w w':World}{b:Nat}{f:α→Int}{k t:TypeId}
theorem zo.keep (h:zo zh Kok w b f)(hk:b<w.heap.size→w'.heap[b]? =w.heap[b]?):zo zh Kok w' b f:=by
 obtain⟨d,g,h1,h2⟩:=h;exact⟨d,g,h1.keep fun o ho=>(hk (qA ho)).trans ho,h2⟩
theorem zo.below (h:zo zh Kok w b f)(hb:Below w.heap.size w w'):zo zh Kok w' b f:=h.keep fun hlt=>hb.block b hlt
theorem zo.drew (h:zo zh Kok w b f):zo zh Kok w.drew b f:=h
theorem zo.alloc (h:zo zh Kok w b f)(o:Obj):zo zh Kok (w.alloc o) b f:=h.keep fun hb=>Below.heap_alloc w o b hb
theorem zo.lt (h:zo zh Kok w b f):b<w.heap.size:=by obtain⟨_,_,h1,_⟩:=h;exact h1.lt
theorem zo.congr {f':α→Int}(h:zo zh Kok w b f)(hf:∀a,f a=f' a):zo zh Kok w b f':=by
 obtain⟨d,g,h1,h2⟩:=h;exact⟨d,g,h1,fun a=>(hf a).symm.trans (h2 a)⟩
theorem zo.grown (h:zo zh Kok w b f){row:Option Nat}(hg:w.grownBy w' row)(hne:row≠some b):zo zh Kok w' b f:=h.keep fun hlt=>hg.block b hlt (Ne.symm hne)
theorem zo.made (w:World)(zh:α→Value)(Kok:α→Prop):zo zh Kok (w.alloc (.map #[] 0)) w.heap.size (fun _=>0):=
 ⟨[],fun _=>0,kY.made w _ _ _,fun a=>by simp⟩
theorem zo.look (K:KeyE Tryz.prog k zh Kok)(ht:Tryz.prog.underlying t=some (.map k 3))(h:zo zh Kok w b f){a:α}(ha:Kok a):
 (Instr.lookup t (.map (some b)) (zh a) false).run Tryz.prog w= .ok (.int .i64 (f a)) w:=by
 obtain⟨d,g,h1,h2⟩:=h;rw[QS K ht ZV h1 ha,h2]
 split <;> rfl
theorem zo.put (K:KeyE Tryz.prog k zh Kok)(ht:Tryz.prog.underlying t=some (.map k 3))(h:zo zh Kok w b f){a:α}(ha:Kok a)(y:Int):
 ∃w1,(Instr.mapUpdate t (.map (some b)) (zh a) (.int .i64 y)).run Tryz.prog w= .ok () w1∧w.grownBy w1 (some b)∧zo zh Kok w1 b (fun c=>if c=a then y else f c):=by
 obtain⟨d,g,h,h2⟩:=h;obtain⟨w1,h1,h3,_,h4⟩:=VX K ht h ha (.int .i64 y);refine⟨w1,h1,h3,uK d a,fun c=>if c=a then y else g c,h4.congr fun c _=>?_,fun c=>?_⟩
 ·unfold ZY;by_cases e:c=a
  ·simp[e]
  ·simp[e]
 ·by_cases e:c=a
  ·simp[e,zn.uT]
  ·simp[e,zn.uT,h2]
theorem zo.entry (K:KeyE Tryz.prog k zh Kok)(ht:Tryz.prog.underlying t=some (.map k 3))(h:zo zh Kok w b f){a:α}(ha:Kok a):
 ∃(st:Nat) (w1:World),(Instr.mapEntry t (.map (some b)) (zh a)).run Tryz.prog w= .ok (.tuple #[.int .i64 (f a),.int .i64 (st:Int)]) w1∧w.grownBy w1 (some b)∧zo zh Kok w1 b f∧
  ∀(y:Int),∃w3,(Instr.entryStore t (.map (some b)) (.int .i64 (st:Int)) (.int .i64 y)).run Tryz.prog w1= .ok () w3∧w1.grownBy w3 (some b)∧zo zh Kok w3 b (fun c=>if c=a then y else f c):=by
 obtain⟨d,g,h,h2⟩:=h;obtain⟨st,w1,h1,h3,_,h4,h5⟩:=KJ K ht ZV h ha;refine⟨st,w1,?_,h3,⟨uK d a,fun c=>if c=a then f a else g c,h4.congr fun c _=>?_,fun c=>?_⟩,fun y=>?_⟩
 ·rw[h1,h2]
  split <;> rfl
 ·unfold ZY;by_cases e:c=a
  ·subst e;simp only[if_true,h2]
   split <;> rfl
  ·simp[e]
 ·by_cases e:c=a
  ·simp[e,zn.uT]
  ·simp[e,zn.uT,h2]
 ·obtain⟨w3,g1,g2,_,g3⟩:=h5 w1 (.int .i64 y) rfl;refine⟨w3,g1,g2,uK d a,fun c=>if c=a then y else g c,g3.congr fun c _=>?_,fun c=>?_⟩
  ·unfold ZY;by_cases e:c=a
   ·simp[e]
   ·simp[e]
  ·by_cases e:c=a
   ·simp[e,zn.uT]
   ·simp[e,zn.uT,h2]
end
theorem Ko (D:Nat):∀(fs:List dt.Fld) (ps:List ByteArray),(∀p∈ps,p.size≤D)→(dt.zG fs ps).length≤fs.length*D
 | [],_,_=>by simp[dt.zG]
 | _ :: _,[],_=>by simp[dt.zG]
 | f :: fs,p :: ps,h=>by
   have h1:=Ko D fs ps fun q hq=>h q (by simp[hq]);have h2:=dt.ZP f p;have h3:=h p (by simp);rw[dt.zG,List.length_append,List.length_cons,Nat.add_mul,ba_len];omega
theorem foldD_size (t:Int)(d:ByteArray):(dt.yj t d).size≤maxLen:=by
 unfold dt.yj
 split
 ·rename_i hc
  have hd:d.size≤65535:=by
   unfold dt.jd at hc
   repeat' split at hc
   all_goals omega
  split
  ·unfold maxLen;omega
  ·rename_i fs hf
   split
   ·rename_i ps r hs
    obtain⟨_,_,h3⟩:=dt.Yz fs d [] ps _ hs;have h4:=Ko 65535 fs ps fun p hp=>by
     rcases h3 p hp with h | h
     ·cases h
     ·omega
    have h5:=dt.UF t fs hf;have h6:fs.length*65535≤100*65535:=Nat.mul_le_mul_right _ h5;show(dt.zG fs ps).toArray.size≤maxLen;rw[List.size_toArray];unfold maxLen;omega
   ·exact Nat.zero_le _
 ·exact Nat.zero_le _
namespace zn
def yL (r:Rec):ByteArray×Int×ByteArray:=(qx r.owner,r.typ,dt.yj r.typ r.data)
end zn
theorem UC {r:Rec}(h:(Lit.int .i64 r.typ).wf=true):YM (zn.yL r):=⟨by have:=fold_size r.owner;show(qx r.owner).size≤maxLen;unfold maxLen;omega,h,foldD_size _ _⟩
theorem kept_new {X Y:World}{o:Obj}(h:Below ((X.alloc o).drew).heap.size ((X.alloc o).drew) Y):Y.heap[X.heap.size]? =some o:=
 (h.block X.heap.size (by simp)).trans (qz rfl)
theorem kept_new' {X Y:World}{o:Obj}(h:Below (X.alloc o).heap.size (X.alloc o) Y):Y.heap[X.heap.size]? =some o:=
 (h.block X.heap.size (by simp)).trans (qz rfl)
theorem kept_old {X Y:World}{o:Obj}{b:Nat}(h:Below X.heap.size X Y)(hb:X.heap[b]? =some o):Y.heap[b]? =some o:=(h.block b (qA hb)).trans hb
theorem Y5 {X:World}{b:Nat}{u0 u1 u2:Value}{t:TypeId}(h:X.heap[b]? =some (.cells #[u0,u1,u2] t (0,0))):
 X.cell? ⟨b,0,none⟩=some u0∧X.cell? ⟨b,1,none⟩=some u1∧X.cell? ⟨b,2,none⟩=some u2∧X.frozen? ⟨b,0,none⟩=false∧X.frozen? ⟨b,1,none⟩=false∧X.frozen? ⟨b,2,none⟩=false:=
 ⟨by rw[qh h];rfl,by rw[qh h];rfl,by rw[qh h];rfl,qE h 0,qE h 1,qE h 2⟩
theorem rules1_any (k:Int)(r:Rec)(hty:(Lit.int .i64 r.typ).wf=true)(sc m:Nat)(f:ByteArray×Int×ByteArray→Int)(c:Nat)(w:World)(hsc:w.cell? ⟨sc,0,none⟩=some (.map (some m)))(hne:sc≠m)(hm:zo Kn YM w m f)(hc:f (zn.yL r)=c)(hcb:c≤2000):
 Calls Tryz.prog 117 #[.int .i64 k,ym r,.pointer (some ⟨sc,0,none⟩)] w fun e w'=>e= .returned (.bool (decide (0<c)))∧w.grownBy w' (some m)∧zo Kn YM w' m (fun a=>if a=zn.yL r then((c+1:Nat):Int) else f a):=by
 have d0:=qZ w r 80 0 _ rfl;have d1:=qZ w r 80 1 _ rfl;have d4:=qZ w r 80 4 _ rfl;obtain⟨w1,hw1⟩:∃X,X=w.alloc (.cells (recC r).toArray 80):=⟨_,rfl⟩;rw[← hw1]at d0 d1 d4;have hs1:w1.heap.size=w.heap.size+1:=by rw[hw1];simp
 have hB1:Below w.heap.size w w1:=by rw[hw1];exact(Below.refl _ w).alloc (Nat.le_refl _) _
 have hall:∀X:World,Below w1.heap.size w1 X→Below w1.heap.size w1 X∧X.cell? ⟨w.heap.size,0,none⟩=some (.string r.owner)∧X.cell? ⟨w.heap.size,1,none⟩=some (.int .i64 r.typ)∧X.cell? ⟨w.heap.size,4,none⟩=some (.string r.data):=fun X hX=>
  ⟨hX,(hX.cell (p:=⟨w.heap.size,0,none⟩) (by show w.heap.size<_;omega)).trans d0,(hX.cell (p:=⟨w.heap.size,1,none⟩) (by show w.heap.size<_;omega)).trans d1,(hX.cell (p:=⟨w.heap.size,4,none⟩) (by show w.heap.size<_;omega)).trans d4⟩
 have hscl:=Qa hsc;have HSC:=qe hsc;have HM:=qe hm;have HC:=qe hc;have HTY:=qe hty;have zD:=qe hall;have HW1:=qe hw1;have HB1:=qe hB1;have hml:=hm.lt;have HS1:=qe hs1;clear hsc hm hc hty hall hw1 hB1 hs1
 go_enter Tryz.func117,Tryz.ntmps117
 go_wp2_with fail;rw[← HW1.out];go_upto_region 1 with fail
 go_cut [6] (fun pv W=>∃b,pv= .pointer (some ⟨b,0,none⟩)∧w.heap.size≤b∧W.heap[b]? =some (.cells #[.string (qx r.owner),.int .i64 r.typ,.string (dt.yj r.typ r.data)] 179 (0,0))∧Below w.heap.size w W)
 case first=>
  go_region_held3 (fun X=>Below w1.heap.size w1 X∧X.cell? ⟨w.heap.size,0,none⟩=some (.string r.owner)∧X.cell? ⟨w.heap.size,1,none⟩=some (.int .i64 r.typ)∧X.cell? ⟨w.heap.size,4,none⟩=some (.string r.data))
   (first | assumption | exact zD.out _ (Below.refl _ _).drew | (go_split_ands;exact zD.out _ (by assumption)) | (go_split_ands;exact zD.out _ (Below.alloc (by assumption) (Below.size (by assumption)) _)) | (go_split_ands;exact zD.out _ (Below.setCell (Below.setCell (Below.setCell (by assumption) (by simp only;omega) _) (by simp only;omega) _) (by simp only;omega) _)))
   (first
    | (go_at_call 101;refine(kM _ _).mono ?_;rintro e w3 ⟨rfl,hB3⟩;(first | (have nb3:=kept_new hB3) | (have nb3:=kept_new' hB3) | (have nb3:=True.intro));(try (have hx3:=Y5 nb3;obtain⟨t0,t1,t2,t3,t4,t5⟩:=hx3));go_split_ands;have hB3n:=Below.trans (B:=w1.heap.size) (a:=w1) (by assumption) (hB3.mono (Below.size (by assumption)));have hz3:=Below.size hB3n)
    | (go_at_call 118;refine(dfold_any _ _ _).mono ?_;rintro e w4 ⟨rfl,hB4⟩;(first | (have nb4:=kept_new hB4) | (have nb4:=kept_new' hB4) | (have nb4:=kept_old hB4 nb3) | (have nb4:=True.intro));(try (have hx4:=Y5 nb4;obtain⟨y0,y1,y2,y3,y4,y5⟩:=hx4));go_split_ands;have hB4n:=Below.trans (B:=w1.heap.size) (a:=w1) (by assumption) (hB4.mono (Below.size (by assumption)));have hz4:=Below.size hB4n))
  ·go_wp2_with fail;go_meet;have h1:=hB4n.alloc (Below.size hB4n) (.cells #[.string (qx r.owner),.int .i64 r.typ,.string (dt.yj r.typ r.data)] 179);have h2:=HS1.out;exact⟨_,rfl,by omega,qz rfl,HB1.out.trans (h1.mono (by omega))⟩
  ·go_wp2_with fail;go_meet;have h2:=HS1.out;exact⟨_,rfl,by omega,qC (qC (qC nb4 0 _) 1 _) 2 _,HB1.out.trans ((Below.setCell (Below.setCell (Below.setCell hB4n (by simp only;omega) _) (by simp only;omega) _) (by simp only;omega) _).mono (by omega))⟩
  ·go_wp2_with fail;go_meet;have h2:=HS1.out;exact⟨_,rfl,by omega,qC (qC (qC nb4 0 _) 1 _) 2 _,HB1.out.trans ((Below.setCell (Below.setCell (Below.setCell hB4n (by simp only;omega) _) (by simp only;omega) _) (by simp only;omega) _).mono (by omega))⟩
 case rest=>
  obtain⟨b,rfl,hb,hblk,hB⟩:=hcut;obtain⟨t0,t1,t2,_,_,_⟩:=Y5 hblk;have s0:=(hB.cell (p:=⟨sc,0,none⟩) hscl).trans HSC.out;have hM2:=HM.out.below hB;have hlook:=hM2.drew.look fullE Tryz.underlying176 (UC HTY.out);have hlook0:=hM2.look fullE Tryz.underlying176 (UC HTY.out);obtain⟨st,w5,hrun5,hg5,hM5,hstep⟩:=hM2.drew.entry fullE Tryz.underlying176 (UC HTY.out);have hlook5:=hM5.look fullE Tryz.underlying176 (UC HTY.out);rw[HC.out]at hlook hlook0 hrun5 hlook5;have hbl:=qA hblk;have hbw:=hB.size;have J7:∀(x:Addr) u,x.block<wc.heap.size→x.block≠m→wc.cell? x=some u→w5.cell? x=some u:=fun x u h1 h2 h3=>by
   rw[hg5.cell_far x h1 (by simpa using h2)];exact h3
  have q0:=J7 ⟨sc,0,none⟩ _ (by show sc<_;omega) (by show sc≠_;omega) s0;have q1:=J7 ⟨b,0,none⟩ _ (by show b<_;omega) (by show b≠_;omega) t0;have q2:=J7 ⟨b,1,none⟩ _ (by show b<_;omega) (by show b≠_;omega) t1;have q3:=J7 ⟨b,2,none⟩ _ (by show b<_;omega) (by show b≠_;omega) t2;have hw:IntKind.i64.wrap ((c:Int)+1)=(c:Int)+1:=IntWalk.i64_in _ (by omega);obtain⟨w6,hrun6,hg6,hM6⟩:=hstep ((c:Int)+1);have hs5:=hg5.size;have J6:∀(x:Addr) u,x.block<wc.heap.size→x.block≠m→w5.cell? x=some u→w6.cell? x=some u:=fun x u h1 h2 h3=>by
   rw[hg6.cell_far x (by exact Nat.lt_of_lt_of_le h1 hs5) (by simpa using h2)];exact h3
  have r0:=J6 ⟨sc,0,none⟩ _ (by show sc<_;omega) (by show sc≠_;omega) q0;have r1:=J6 ⟨b,0,none⟩ _ (by show b<_;omega) (by show b≠_;omega) q1;have r2:=J6 ⟨b,1,none⟩ _ (by show b<_;omega) (by show b≠_;omega) q2;have r3:=J6 ⟨b,2,none⟩ _ (by show b<_;omega) (by show b≠_;omega) q3;have hlook6:=hM6.look fullE Tryz.underlying176 (UC HTY.out);rw[if_pos rfl]at hlook6;simp only[zn.yL,Kn]at hlook hlook5 hlook6 hrun5 hrun6;have hgt:decide (1<(c:Int)+1)=decide (0<c):=by
   by_cases h:0<c
   ·rw[decide_eq_true h];exact decide_eq_true (by omega)
   ·rw[decide_eq_false h];exact decide_eq_false (by omega)
  have hres1:w.grownBy w6 (some m):=⟨hg6.os.trans (hg5.os.trans hB.os),hg6.tape.trans (hg5.tape.trans hB.tape),hg6.output.trans (hg5.output.trans hB.output),by have:=hg6.size;have h':wc.heap.size≤w5.heap.size:=hs5;omega,fun j hj hne=>by
   have h':wc.heap.size≤w5.heap.size:=hs5;exact(hg6.block j (by omega) hne).trans ((hg5.block j (show j<wc.heap.size by omega) hne).trans (hB.block j hj))⟩
  have HG5:=qe hg5;have HG6:=qe hg6;have HM6:=qe hM6;have HB:=qe hB;have HGT:=qe hgt;have HR1:=qe hres1;clear hg5 hg6 hM6 hB hstep hM2 hM5 hblk J7 J6 hgt hres1 hlook0;go_wp2_with fail;go_upto_region 2 with fail
  go_cut [] (fun wx=>wx=w6)
  case first=>
   go_region_held3 (fun X=>X.cell? ⟨sc,0,none⟩=some (.map (some m))∧X.cell? ⟨b,0,none⟩=some (.string (qx r.owner))∧X.cell? ⟨b,1,none⟩=some (.int .i64 r.typ)∧X.cell? ⟨b,2,none⟩=some (.string (dt.yj r.typ r.data)))
    (first | (refine⟨?_,?_,?_,?_⟩ <;> assumption) | go_keep) (first | (fail))
   all_goals (go_wp2_with fail;go_meet;rfl)
  case rest=>
   subst hcut;clear hw hrun5 hrun6 hlook hlook5;go_wp2_with fail;go_ret;exact⟨qH HGT.out,HR1.out,HM6.out.congr fun a=>by split <;> simp⟩
end Go.Proofs.YtpcmilhjpmlbpaaGreatDoor
