/-
  TransferAnswers, where the arguments are of bulk at most 1048576: it answers true, and each argument reads as before.
-/
import Derived.Test.YtpcmilhjpmlbpaaGreatDoorCards
import Derived.Test.YtpcmilhjpmlbpaaGreatDoorTie
import Derived.Test.YtpcmilhjpmlbpaaGreatDoorQHand
import Derived.Deep.DeepHandedRow
import Derived.SevenTiedAt
set_option maxRecDepth 100000
set_option maxHeartbeats 1000000
namespace Go.Proofs.YtpcmilhjpmlbpaaGreatDoor
open Go.RowKit Go.ChangeShapes Go.WideShapes Go.ChangeAt Go.Deep
theorem YU (os:Os){H:Type}(enc:TypeId×Value→H):∃places,DataW.whole enc Tryz.prog ((Vq os).forCall (fun _ _=>0) ⟨#[],#[.slice none 0 0,.slice none 0 0,.int .i64 0,.int .i64 0],[]⟩).memory Tryz.f3.params.toList Rows.transferAnswersSpec.vars false #[(.slice none 0 0:Value),(.slice none 0 0:Value),(.int .i64 0:Value),(.int .i64 0:Value)].toList 8=some ([.nil,.nil,.lit (.int .i64 0),.lit (.int .i64 0)],[],places):=
 ⟨[],by kernel_rfl⟩
theorem Yy (os:Os)(started:os.Started)(H:Type)(enc:TypeId×Value→H)(F:Stop.Interp):
 ReturnsInHanded {} Tryz.checked os 3 .any ((Rows.OpenSpec.upto Rows.transferAnswersSpec).preRow enc Tryz.prog Tryz.f3 Rows.transferAnswersUptoRow.domain false Rows.transferAnswersUptoRow.laid) (((Rows.OpenSpec.upto Rows.transferAnswersSpec).at F).post enc Tryz.prog Tryz.f3 false true false false):=by
 obtain⟨places,hx⟩:=YU os enc;refine returnsInHanded_of_row (C:=Tryz.checked) (s:=Rows.OpenSpec.upto Rows.transferAnswersSpec) own started (by kernel_rfl) Tryz.func3
  (witness_row_at (enc:=enc) (C:=Tryz.checked) false (Vq os) #[.slice none 0 0,.slice none 0 0,.int .i64 0,.int .i64 0] rfl (by kernel_rfl) (by kernel_rfl) (by kernel_rfl)
   (OpenSpec.preRow_of_cond 8 hx (by kernel_rfl) (fun k hk=>by cases hk;kernel_rfl) (by kernel_rfl) (laid_met os _))) ?_
 intro W base args ds gs before hval0 hW _ hcond _ hL _ _;have hk:=hcond _ rfl;have hET:ErrT W:=errT_of_laid hL;have hval:∀(j:Nat) t v,Tryz.f3.params[j]? =some t→args[j]? =some v→Value.okWide Tryz.prog W .any base t v:=hval0;have hW':=hW;obtain⟨p,q,hA0,hV,rfl,hfz,hnd⟩:=hW;have hA:DataW.TrodAll enc Tryz.prog W 0 (fun _=>true) true Tryz.f3.params.toList args.toList ds p:=hA0;rw[Tryz.params3]at hA hval;obtain⟨v0,vs0,d0,ds0,p0,q0,hargs,rfl,rfl,h0,r0⟩:=trodAll_cons hA;obtain⟨v1,vs1,d1,ds1,p1,q1,rfl,rfl,rfl,h1,r1⟩:=trodAll_cons r0;obtain⟨v2,vs2,d2,ds2,p2,q2,rfl,rfl,rfl,h2,r2⟩:=trodAll_cons r1;obtain⟨v3,vs3,d3,ds3,p3,q3,rfl,rfl,rfl,h3,r3⟩:=trodAll_cons r2;obtain⟨rfl,rfl,rfl⟩:=trodAll_nil r3;obtain rfl:args= #[v0,v1,v2,v3]:=by cases args;simp_all
 obtain⟨rfl,rfl⟩:=trodVars_none hV;have hbulk:Rows.uptoBulkAll ([d0,d1,d2,d3]:List (DataW H))≤1048576:=of_decide_eq_true (by simpa only[Rows.uptoSmall,List.append_nil] using hk);simp only[Rows.uptoBulkAll]at hbulk;have k0:=h0;have k1:=h1;have k2:=h2;have k3:=h3;have lt0:∀x∈p0,x.block<W.heap.size:=by obtain⟨m,hm⟩:=k0;exact DataW.trod_lt m _ _ _ hm
 have lt1:∀x∈p1,x.block<W.heap.size:=by obtain⟨m,hm⟩:=k1;exact DataW.trod_lt m _ _ _ hm
 have lt2:∀x∈p2,x.block<W.heap.size:=by obtain⟨m,hm⟩:=k2;exact DataW.trod_lt m _ _ _ hm
 have lt3:∀x∈p3,x.block<W.heap.size:=by obtain⟨m,hm⟩:=k3;exact DataW.trod_lt m _ _ _ hm
 obtain⟨a0,n0,c0,rfl⟩:=okWide_slice Tryz.underlying22 (hval 0 22 v0 rfl rfl);obtain⟨fu0,hf0⟩:=h0;obtain⟨A0,cap0,l0,e0,hn0,hrv0⟩:=open_lots (v:=.slice a0 n0 c0) hf0 (show Rows.uptoBulk d0≤1048576 by omega);obtain⟨a1,n1,c1,rfl⟩:=okWide_slice Tryz.underlying23 (hval 1 23 v1 rfl rfl);obtain⟨fu1,hf1⟩:=h1;obtain⟨A1,cap1,l1,e1,hn1,xJ⟩:=open_msgs (v:=.slice a1 n1 c1) hf1 (show Rows.uptoBulk d1≤1048576 by omega);obtain⟨i2,rfl⟩:=okWide_int Tryz.underlying3 (hval 2 3 v2 rfl rfl);obtain⟨fu2,hf2⟩:=h2;obtain⟨i2',e2,_,w2⟩:=DataW.trod_int Tryz.underlying3 hf2;have e2':i2=i2':=by
  have h:[Value.int .i64 i2]= [Value.int .i64 i2']:=e2
  simpa using h
 subst e2';obtain⟨i3,rfl⟩:=okWide_int Tryz.underlying3 (hval 3 3 v3 rfl rfl);obtain⟨fu3,hf3⟩:=h3;obtain⟨i3',e3,_,w3⟩:=DataW.trod_int Tryz.underlying3 hf3;have e3':i3=i3':=by
  have h:[Value.int .i64 i3]= [Value.int .i64 i3']:=e3
  simpa using h
 subst e3';clear hA0 hval0;have walk:Calls Tryz.prog 3 #[.slice a0 n0 c0,.slice a1 n1 c1,.int .i64 i2,.int .i64 i3] W fun e w'=>e= .returned (.bool true)∧Below W.heap.size W w':=by
  rw[e0];rw[e1];exact answers_any l0 hn0 _ l1 hn1 _ i2 i3 W hET hrv0 xJ
 refine walk.mono fun e W' ⟨he,bel⟩=>?_;subst he;exact⟨_,rfl,_,_,_,[],_,[],hW',trodAll_mk1 (shut_bool Tryz.underlying4 _),(trodAll_cons_mk (Below.trod laidOut (by kernel_rfl) (of_decide_eq_true (by kernel_rfl)) k0 bel lt0) (trodAll_cons_mk (Below.trod laidOut (by kernel_rfl) (of_decide_eq_true (by kernel_rfl)) k1 bel lt1) (trodAll_cons_mk (Below.trod laidOut (by kernel_rfl) (of_decide_eq_true (by kernel_rfl)) k2 bel lt2) (trodAll_cons_mk (Below.trod laidOut (by kernel_rfl) (of_decide_eq_true (by kernel_rfl)) k3 bel lt3) trodAll_mk0)))),rfl,bel.frame _,fun h=>by cases h⟩
theorem Y4:Rows.TransferAnswersUptoSaid:=
 OpenClaim.holds_of_cond 3 Tryz.f3 rfl rfl rfl rfl rfl rfl rfl ⟨rfl,rfl,rfl,rfl,rfl⟩ rfl rfl rfl rfl rfl (by kernel_rfl) Tryz.func3 (by kernel_rfl)
  (of_decide_eq_true (by kernel_rfl)) (by unfold Func.isWrapper;first | (rw[if_pos (by decide +kernel)];kernel_rfl) | (rw[if_neg (by decide +kernel)];exact⟨rfl,rfl⟩))
  (fun os started H enc _ F=>by rw[OpenClaim.pre_eq_preRow];exact Yy os started H enc F)
theorem YV (f:FuncId)(fn:Func)(hf:Tryz.pinned.checked.prog.funcNamed "gazetteer/gazetteerlaw7.TransferAnswers" =some f)(hfn:Tryz.pinned.checked.prog.funcs[f]? =some fn):
 true=Tryz.pinned.checked.prog.looks []∧∀(j:Nat) t,fn.params[j]? =some t→Tryz.pinned.checked.prog.wantsStandIn t=false:=by
 obtain rfl:f=3:=Option.some.inj ((show Tryz.prog.funcNamed "gazetteer/gazetteerlaw7.TransferAnswers" =some 3 by kernel_rfl).symm.trans hf) |>.symm
 obtain rfl:fn=Tryz.f3:=(Option.some.inj (Tryz.func3.symm.trans hfn)).symm;refine⟨by kernel_rfl,fun j t ht=>?_⟩;rw[Tryz.params3]at ht;have hm:t=22∨t=23∨t=3∨t=3:=by simpa using Array.mem_of_getElem? ht
 rcases hm with rfl | rfl | rfl | rfl
 ·exact(show Tryz.prog.wantsStandIn 22=false by kernel_rfl)
 ·exact(show Tryz.prog.wantsStandIn 23=false by kernel_rfl)
 ·exact(show Tryz.prog.wantsStandIn 3=false by kernel_rfl)
 ·exact(show Tryz.prog.wantsStandIn 3=false by kernel_rfl)
theorem transferAnswers_card:Rows.TransferAnswersUptoCardSaid:=
 Claim7.holds_tied_plain_at .later [] _ _ _ _ Y4 (fun _ h=>by cases h) (by kernel_rfl) (fun _ h=>by cases h) transferAnswersUpto_row_tie rfl ⟨rfl,rfl⟩ (by kernel_rfl) rfl YV (by kernel_rfl)
#print axioms transferAnswers_card
end Go.Proofs.YtpcmilhjpmlbpaaGreatDoor
