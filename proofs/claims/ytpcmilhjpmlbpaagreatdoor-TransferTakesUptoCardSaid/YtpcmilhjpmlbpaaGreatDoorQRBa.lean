import Derived.Test.YtpcmilhjpmlbpaaGreatDoorQRSp
set_option maxRecDepth 100000
set_option maxHeartbeats 16000000
namespace Go.Proofs.YtpcmilhjpmlbpaaGreatDoor
open Go.RowKit Go.Shelf nm od
namespace tr
def Y5 (q:Msg):Bool:=match q.qs with
 | [n]=>decide (q.h=hdI q.h.id) && decide (n.cls=1) && decide (q.an.length=0) && decide (q.ad.length=0) && decide (0<=q.h.id/\q.h.id<=65535)
 | _=>false
def restB (Z:Option Zn)(q:Msg):Bool:=match q.qs with
 | [n]=>if n.typ=252 then qo n.name && decide (q.au.length=0) else match Z with
   | some A=>decide (n.typ=251/\n.name=A.ap/\q.au= [qZ A])
   | none=>false
 | _=>false
theorem asked_two (Z:Option Zn)(q:Msg):zA Z q=(Y5 q && restB Z q):=by
 unfold zA Y5 restB
 match q.qs with
 | []=>rfl
 | [n]=>rfl
 | _ :: _ :: _=>rfl
theorem kQ {q:Msg}(h:¬(q.h=hdI q.h.id/\(∃n,q.qs= [n]/\n.cls=1)/\q.an.length=0/\q.ad.length=0/\0<=q.h.id/\q.h.id<=65535)):Y5 q=false:=by
 cases e:Y5 q
 ·rfl
 ·exfalso;apply h;unfold Y5 at e
  match hq:q.qs with
  | []=>rw[hq]at e;cases e
  | _ :: _ :: _=>rw[hq]at e;cases e
  | [n]=>
    rw[hq]at e;simp only[gX,H7]at e;exact⟨e.1.1.1.1,⟨n,rfl,e.1.1.1.2⟩,e.1.1.2,e.1.2,e.2⟩
theorem bare_yes {q:Msg}(h:q.h=hdI q.h.id/\(∃n,q.qs= [n]/\n.cls=1)/\q.an.length=0/\q.ad.length=0/\0<=q.h.id/\q.h.id<=65535):Y5 q=true:=by
 obtain⟨h1,⟨n,h2,h3⟩,h4,h5,h6⟩:=h;unfold Y5;rw[h2];simp only[gX,H7];exact⟨⟨⟨⟨h1,h3⟩,h4⟩,h5⟩,h6⟩
end tr
theorem rbare_any (hi:Int)(rs:Bool)(op:Int)(b3 b4 b5 b6 b7 b8:Bool)(rc:Int)(qs:List Qn)(an au ad:List Rec)(q a u d:Value)(w:World)(rq:yw w q qs)(ra:ql w a an)(ru:ql w u au)(rd:ql w d ad):
 Calls Tryz.prog 54 #[yu ⟨hi,rs,op,b3,b4,b5,b6,b7,b8,rc⟩ q a u d] w λe w'=>e= .returned (.bool (tr.Y5 ⟨⟨hi,rs,op,b3,b4,b5,b6,b7,b8,rc⟩,qs,an,au,ad⟩))/\Below w.heap.size w w':=by
 obtain⟨bb,hbb⟩:=yM (tr.Y5 ⟨⟨hi,rs,op,b3,b4,b5,b6,b7,b8,rc⟩,qs,an,au,ad⟩);have HBB:=qe hbb;rw[<- hbb];have HQ:=qe rq;obtain⟨qa,qc,rfl,-⟩:=id rq;obtain⟨nq,hnq⟩:=yM qs.length;rw[<- hnq]at HQ ⊢;have HNQ:=qe hnq;obtain⟨aa,ac,rfl,-⟩:=id ra;obtain⟨ua,uc,rfl,-⟩:=id ru;obtain⟨da,dc,rfl,-⟩:=id rd;clear hbb rq ra ru rd hnq
 go_enter Tryz.func54,Tryz.ntmps54
 cases rs
 ·by_cases h2:op=0
  ·subst h2
   cases b3
   ·cases b4
    ·cases b5
     ·cases b6
      ·cases b7
       ·cases b8
        ·by_cases h9:rc=0
         ·subst h9;by_cases h10:nq=1
          ·obtain⟨n,hqn⟩:=List.length_eq_one_iff.1 (HNQ.out.symm.trans h10);subst hqn;obtain⟨qb,Qm,rfl,c2,i1,i2⟩:∃qb Qm,qa=some ⟨qb,Qm,none⟩/\(w.alloc (.cells #[.int .i64 hi,.bool false,.int .i64 0,.bool false,.bool false,.bool false,.bool false,.bool false,.bool false,.int .i64 0,.slice qa nq qc,.slice aa an.length ac,.slice ua au.length uc,.slice da ad.length dc] 33)).cell? ⟨qb,Qm+2,none⟩=some (.int .i64 n.cls)/\(0:Int)<(nq:Int)/\0<nq:=by
            obtain⟨_,_,hv,-,hr0⟩:=HQ.out;simp only[gL]at hv;obtain⟨rfl,-,-⟩:=hv;obtain⟨qb,Qm,rfl,hqb,c0,c1,c2⟩:=hr0 0 (by simp);simp only[Nat.zero_mul,Nat.add_zero,Ho]at c2;exact⟨qb,Qm,rfl,by rw[World.cell?_alloc_lt _ _ ⟨qb,Qm+2,none⟩ hqb];exact c2,by omega,by omega⟩
           have d10:((nq:Int) == 1)=true:=by rw[Hz];omega
           clear h10;by_cases h11:n.cls=1
           ·have d11:(n.cls == 1)=true:=by rw[Hz];exact h11
            have H11:=qe h11;clear h11;by_cases h12:an.length=0
            ·have d12:((an.length:Int) == 0)=true:=by rw[Hz];omega
             have H12:=qe h12;clear h12;by_cases h13:ad.length=0
             ·have d13:((ad.length:Int) == 0)=true:=by rw[Hz];omega
              have H13:=qe h13;clear h13;by_cases h14:0<=hi
              ·by_cases h15:hi<65536
               ·have HN:=qe (show bb=true from by rw[HBB.out];exact tr.bare_yes ⟨rfl,⟨n,rfl,H11.out⟩,H12.out,H13.out,h14,(by show hi<=65535;omega)⟩);go_wp2_with fail;go_ret;exact⟨congrArg (λb=>Ending.returned (.bool b)) HN.out.symm,(gJ _ _).alloc (gI _) _⟩
               ·have HN:=qe (show bb=false from by rw[HBB.out];exact tr.kQ λh=>by(have h6:=h.2.2.2.2.2;simp only at h6;omega));go_wp2_with fail;go_ret;exact⟨congrArg (λb=>Ending.returned (.bool b)) HN.out.symm,(gJ _ _).alloc (gI _) _⟩
              ·have HN:=qe (show bb=false from by rw[HBB.out];exact tr.kQ λh=>by(have h6:=h.2.2.2.2.1;simp only at h6;omega));go_wp2_with fail;go_ret;exact⟨congrArg (λb=>Ending.returned (.bool b)) HN.out.symm,(gJ _ _).alloc (gI _) _⟩
             ·have d13:((ad.length:Int) == 0)=false:=by rw[gG];omega
              have H13:=qe h13;clear h13;have HN:=qe (show bb=false from by rw[HBB.out];exact tr.kQ λh=>by(exact H13.out h.2.2.2.1));go_wp2_with fail;go_ret;exact⟨congrArg (λb=>Ending.returned (.bool b)) HN.out.symm,(gJ _ _).alloc (gI _) _⟩
            ·have d12:((an.length:Int) == 0)=false:=by rw[gG];omega
             have H12:=qe h12;clear h12;have HN:=qe (show bb=false from by rw[HBB.out];exact tr.kQ λh=>by(exact H12.out h.2.2.1));go_wp2_with fail;go_ret;exact⟨congrArg (λb=>Ending.returned (.bool b)) HN.out.symm,(gJ _ _).alloc (gI _) _⟩
           ·have d11:(n.cls == 1)=false:=by rw[gG];exact h11
            have H11:=qe h11;clear h11;have HN:=qe (show bb=false from by rw[HBB.out];exact tr.kQ λh=>by(obtain⟨-,⟨y,h3,h4⟩,-⟩:=h;simp only[List.cons.injEq,and_true]at h3;exact H11.out (h3 ▸ h4)));go_wp2_with fail;go_ret;exact⟨congrArg (λb=>Ending.returned (.bool b)) HN.out.symm,(gJ _ _).alloc (gI _) _⟩
          ·have d10:((nq:Int) == 1)=false:=by rw[gG];omega
           have H10:=qe h10;clear h10;have HN:=qe (show bb=false from by rw[HBB.out];exact tr.kQ λh=>by(obtain⟨-,⟨y,h3,-⟩,-⟩:=h;simp only at h3;exact H10.out (by rw[HNQ.out,h3];rfl)));go_wp2_with fail;go_ret;exact⟨congrArg (λb=>Ending.returned (.bool b)) HN.out.symm,(gJ _ _).alloc (gI _) _⟩
         ·have d9:(rc == 0)=false:=by rw[gG];exact h9
          have H9:=qe h9;clear h9;have HN:=qe (show bb=false from by rw[HBB.out];exact tr.kQ λh=>by(have h3:=h.1;simp only[hdI,Hd.mk.injEq]at h3;exact H9.out (by simp_all)));go_wp2_with fail;go_ret;exact⟨congrArg (λb=>Ending.returned (.bool b)) HN.out.symm,(gJ _ _).alloc (gI _) _⟩
        ·have HN:=qe (show bb=false from by rw[HBB.out];exact tr.kQ λh=>by(have h3:=h.1;simp[hdI,Hd.mk.injEq]at h3));go_wp2_with fail;go_ret;exact⟨congrArg (λb=>Ending.returned (.bool b)) HN.out.symm,(gJ _ _).alloc (gI _) _⟩
       ·have HN:=qe (show bb=false from by rw[HBB.out];exact tr.kQ λh=>by(have h3:=h.1;simp[hdI,Hd.mk.injEq]at h3));go_wp2_with fail;go_ret;exact⟨congrArg (λb=>Ending.returned (.bool b)) HN.out.symm,(gJ _ _).alloc (gI _) _⟩
      ·have HN:=qe (show bb=false from by rw[HBB.out];exact tr.kQ λh=>by(have h3:=h.1;simp[hdI,Hd.mk.injEq]at h3));go_wp2_with fail;go_ret;exact⟨congrArg (λb=>Ending.returned (.bool b)) HN.out.symm,(gJ _ _).alloc (gI _) _⟩
     ·have HN:=qe (show bb=false from by rw[HBB.out];exact tr.kQ λh=>by(have h3:=h.1;simp[hdI,Hd.mk.injEq]at h3));go_wp2_with fail;go_ret;exact⟨congrArg (λb=>Ending.returned (.bool b)) HN.out.symm,(gJ _ _).alloc (gI _) _⟩
    ·have HN:=qe (show bb=false from by rw[HBB.out];exact tr.kQ λh=>by(have h3:=h.1;simp[hdI,Hd.mk.injEq]at h3));go_wp2_with fail;go_ret;exact⟨congrArg (λb=>Ending.returned (.bool b)) HN.out.symm,(gJ _ _).alloc (gI _) _⟩
   ·have HN:=qe (show bb=false from by rw[HBB.out];exact tr.kQ λh=>by(have h3:=h.1;simp[hdI,Hd.mk.injEq]at h3));go_wp2_with fail;go_ret;exact⟨congrArg (λb=>Ending.returned (.bool b)) HN.out.symm,(gJ _ _).alloc (gI _) _⟩
  ·have d2:(op == 0)=false:=by rw[gG];exact h2
   have H2:=qe h2;clear h2;have HN:=qe (show bb=false from by rw[HBB.out];exact tr.kQ λh=>by(have h3:=h.1;simp only[hdI,Hd.mk.injEq]at h3;exact H2.out h3.2.2.1));go_wp2_with fail;go_ret;exact⟨congrArg (λb=>Ending.returned (.bool b)) HN.out.symm,(gJ _ _).alloc (gI _) _⟩
 ·have HN:=qe (show bb=false from by rw[HBB.out];exact tr.kQ λh=>by(have h3:=h.1;simp[hdI,Hd.mk.injEq]at h3));go_wp2_with fail;go_ret;exact⟨congrArg (λb=>Ending.returned (.bool b)) HN.out.symm,(gJ _ _).alloc (gI _) _⟩
end Go.Proofs.YtpcmilhjpmlbpaaGreatDoor
