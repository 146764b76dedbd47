/-
  TransferTakes: for any lot, any name, any number, any message and any answers, what transfer.Ask, transfer.Take and the reference's Ask and Take make of them is the same, and no argument is changed. Conditions: the arguments' bulk is at most 1048576; the laid variable errors.errorType (a tied card).
-/
import Derived.Test.YtpcmilhjpmlbpaaGreatDoorCards
import Derived.Test.YtpcmilhjpmlbpaaGreatDoorTie
import Derived.Test.YtpcmilhjpmlbpaaGreatDoorQTkT
import Derived.Test.YtpcmilhjpmlbpaaGreatDoorQHand
import Derived.Deep.DeepHandedRow
import Derived.SevenTiedAt
set_option maxRecDepth 100000
set_option maxHeartbeats 1000000
namespace Go.Proofs.YtpcmilhjpmlbpaaGreatDoor
open Go.RowKit Go.ChangeShapes Go.WideShapes Go.ChangeAt Go.Deep
theorem Kj (os:Os){H:Type}(enc:TypeId×Value->H):∃places,DataW.whole enc Tryz.prog ((VI os).forCall (λ_ _=>0) ⟨#[],#[.agg #[.string ByteArray.empty,.slice none 0 0],.bool false,.string ByteArray.empty,.int .i64 0,.agg #[.int .i64 0,.bool false,.int .i64 0,.bool false,.bool false,.bool false,.bool false,.bool false,.bool false,.int .i64 0,.slice none 0 0,.slice none 0 0,.slice none 0 0,.slice none 0 0],.slice none 0 0],[]⟩).memory Tryz.f4.params.toList Rows.transferTakesSpec.vars false #[(.agg #[.string ByteArray.empty,.slice none 0 0]:Value),(.bool false:Value),(.string ByteArray.empty:Value),(.int .i64 0:Value),(.agg #[.int .i64 0,.bool false,.int .i64 0,.bool false,.bool false,.bool false,.bool false,.bool false,.bool false,.int .i64 0,.slice none 0 0,.slice none 0 0,.slice none 0 0,.slice none 0 0]:Value),(.slice none 0 0:Value)].toList 8=some ([.agg [.lit (.string []),.nil],.lit (.bool false),.lit (.string []),.lit (.int .i64 0),.agg [.lit (.int .i64 0),.lit (.bool false),.lit (.int .i64 0),.lit (.bool false),.lit (.bool false),.lit (.bool false),.lit (.bool false),.lit (.bool false),.lit (.bool false),.lit (.int .i64 0),.nil,.nil,.nil,.nil],.nil],[],places):=
 ⟨[],by kernel_rfl⟩
theorem Jh (os:Os)(started:os.Started)(H:Type)(enc:TypeId×Value->H)(F:Stop.Interp):
 ReturnsInHanded {} Tryz.checked os 4 .any ((Rows.OpenSpec.upto Rows.transferTakesSpec).preRow enc Tryz.prog Tryz.f4 Rows.transferTakesUptoRow.domain false Rows.transferTakesUptoRow.laid) (((Rows.OpenSpec.upto Rows.transferTakesSpec).at F).post enc Tryz.prog Tryz.f4 false true false false):=by
 obtain⟨places,hx⟩:=Kj os enc
 refine returnsInHanded_of_row (C:=Tryz.checked) (s:=Rows.OpenSpec.upto Rows.transferTakesSpec) own started (by kernel_rfl) Tryz.func4
  (witness_row_at (enc:=enc) (C:=Tryz.checked) false (VI os) #[.agg #[.string ByteArray.empty,.slice none 0 0],.bool false,.string ByteArray.empty,.int .i64 0,.agg #[.int .i64 0,.bool false,.int .i64 0,.bool false,.bool false,.bool false,.bool false,.bool false,.bool false,.int .i64 0,.slice none 0 0,.slice none 0 0,.slice none 0 0,.slice none 0 0],.slice none 0 0] rfl (by kernel_rfl) (by kernel_rfl) (by kernel_rfl)
   (OpenSpec.preRow_of_cond 8 hx (by kernel_rfl) (λk hk=>by cases hk;kernel_rfl) (by kernel_rfl) (laid_met os _))) ?_
 intro W base args ds gs before hval0 hW _ hcond _ hL _ _;have hk:=hcond _ rfl;have hET:ErrT W:=errT_of_laid hL;have hval:∀(j:Nat) t v,Tryz.f4.params[j]? =some t->args[j]? =some v->Value.okWide Tryz.prog W .any base t v:=hval0;have hW':=hW;obtain⟨p,q,hA0,hV,rfl,hfz,hnd⟩:=hW;have hA:DataW.TrodAll enc Tryz.prog W 0 (λ_=>true) true Tryz.f4.params.toList args.toList ds p:=hA0;rw[Tryz.params4]at hA hval;obtain⟨v0,vs0,d0,ds0,p0,q0,hargs,rfl,rfl,h0,r0⟩:=trodAll_cons hA;obtain⟨v1,vs1,d1,ds1,p1,q1,rfl,rfl,rfl,h1,r1⟩:=trodAll_cons r0;obtain⟨v2,vs2,d2,ds2,p2,q2,rfl,rfl,rfl,h2,r2⟩:=trodAll_cons r1;obtain⟨v3,vs3,d3,ds3,p3,q3,rfl,rfl,rfl,h3,r3⟩:=trodAll_cons r2;obtain⟨v4,vs4,d4,ds4,p4,q4,rfl,rfl,rfl,h4,r4⟩:=trodAll_cons r3;obtain⟨v5,vs5,d5,ds5,p5,q5,rfl,rfl,rfl,h5,r5⟩:=trodAll_cons r4;obtain⟨rfl,rfl,rfl⟩:=trodAll_nil r5;obtain rfl:args= #[v0,v1,v2,v3,v4,v5]:=by cases args;simp_all
 obtain⟨rfl,rfl⟩:=trodVars_none hV;have hbulk:Rows.uptoBulkAll ([d0,d1,d2,d3,d4,d5]:List (DataW H))<=1048576:=of_decide_eq_true (by simpa only[Rows.uptoSmall,List.append_nil] using hk);simp only[Rows.uptoBulkAll]at hbulk;have k0:=h0;have k1:=h1;have k2:=h2;have k3:=h3;have k4:=h4;have k5:=h5;have lt0:∀x∈p0,x.block<W.heap.size:=by obtain⟨m,hm⟩:=k0;exact DataW.trod_lt m _ _ _ hm
 have lt1:∀x∈p1,x.block<W.heap.size:=by obtain⟨m,hm⟩:=k1;exact DataW.trod_lt m _ _ _ hm
 have lt2:∀x∈p2,x.block<W.heap.size:=by obtain⟨m,hm⟩:=k2;exact DataW.trod_lt m _ _ _ hm
 have lt3:∀x∈p3,x.block<W.heap.size:=by obtain⟨m,hm⟩:=k3;exact DataW.trod_lt m _ _ _ hm
 have lt4:∀x∈p4,x.block<W.heap.size:=by obtain⟨m,hm⟩:=k4;exact DataW.trod_lt m _ _ _ hm
 have lt5:∀x∈p5,x.block<W.heap.size:=by obtain⟨m,hm⟩:=k5;exact DataW.trod_lt m _ _ _ hm
 obtain⟨ap0,l0,rv0,rfl,hr0,sa0,ln0,sz0,wf0,os0⟩:=open_lot (hval 0 42 v0 rfl rfl) h0 (by omega);obtain⟨t1,rfl⟩:=okWide_bool Tryz.underlying4 (hval 1 4 v1 rfl rfl);obtain⟨s2,rfl⟩:=okWide_string Tryz.underlying9 (hval 2 9 v2 rfl rfl);obtain⟨fu2,hf2⟩:=h2;obtain⟨s2',e2,z2,_⟩:=DataW.trod_string Tryz.underlying9 hf2;have q2':s2=s2':=by
  have h:[Value.string s2]= [Value.string s2']:=e2
  simpa using h
 subst q2';have b2:s2.size<=1099511627776:=by
  have h1:=uq.JX (H:=H) s2;have h2:d2= .lit (.string s2.data.toList):=congrArg Prod.fst z2;rw[<- h2]at h1;omega
 obtain⟨i3,rfl⟩:=okWide_int Tryz.underlying3 (hval 3 3 v3 rfl rfl);obtain⟨fu3,hf3⟩:=h3;obtain⟨i3',e3,_,w3⟩:=DataW.trod_int Tryz.underlying3 hf3;have e3':i3=i3':=by
  have h:[Value.int .i64 i3]= [Value.int .i64 i3']:=e3
  simpa using h
 subst e3';obtain⟨M4,mq4,ma4,mu4,md4,rfl,hin4,fit4,hq4,ha4,hu4,hd4,wi4,wo4,wr4⟩:=open_msg (hval 4 33 v4 rfl rfl) h4 (by omega);obtain⟨a5,n5,c5,rfl⟩:=okWide_slice Tryz.underlying23 (hval 5 23 v5 rfl rfl);obtain⟨fu5,hf5⟩:=h5;obtain⟨A5,cap5,l5,e5,hn5,hrv5,hrn5⟩:=open_msgsB (v:=.slice a5 n5 c5) hf5 (show Rows.uptoBulk d5<=1048576 by omega);clear hA0 hval0;have walk:Calls Tryz.prog 4 #[.agg #[.string ap0,rv0],.bool t1,.string s2,.int .i64 i3,yu M4.h mq4 ma4 mu4 md4,.slice a5 n5 c5] W λe w'=>e= .returned (.bool true)/\Below W.heap.size W w':=by
  rw[e5];exact takes_any ap0 l0 rv0 sz0 wf0 os0 sa0 t1 s2 b2 i3 M4 mq4 ma4 mu4 md4 fit4 (λy hy=>(hq4 y hy).2) l5 hn5 hrn5 _ W hET hr0 hin4 hrv5
 refine walk.mono λe W' ⟨he,bel⟩=>?_;subst he;exact⟨_,rfl,_,_,_,[],_,[],hW',trodAll_mk1 (shut_bool Tryz.underlying4 _),(trodAll_cons_mk (Below.trod laidOut (by kernel_rfl) (of_decide_eq_true (by kernel_rfl)) k0 bel lt0) (trodAll_cons_mk (Below.trod laidOut (by kernel_rfl) (of_decide_eq_true (by kernel_rfl)) k1 bel lt1) (trodAll_cons_mk (Below.trod laidOut (by kernel_rfl) (of_decide_eq_true (by kernel_rfl)) k2 bel lt2) (trodAll_cons_mk (Below.trod laidOut (by kernel_rfl) (of_decide_eq_true (by kernel_rfl)) k3 bel lt3) (trodAll_cons_mk (Below.trod laidOut (by kernel_rfl) (of_decide_eq_true (by kernel_rfl)) k4 bel lt4) (trodAll_cons_mk (Below.trod laidOut (by kernel_rfl) (of_decide_eq_true (by kernel_rfl)) k5 bel lt5) trodAll_mk0)))))),rfl,bel.frame _,λh=>by cases h⟩
theorem KO:Rows.TransferTakesUptoSaid:=
 OpenClaim.holds_of_cond 4 Tryz.f4 rfl rfl rfl rfl rfl rfl rfl ⟨rfl,rfl,rfl,rfl,rfl⟩ rfl rfl rfl rfl rfl (by kernel_rfl) Tryz.func4 (by kernel_rfl)
  (of_decide_eq_true (by kernel_rfl)) (by unfold Func.isWrapper;first | (rw[if_pos (by decide +kernel)];kernel_rfl) | (rw[if_neg (by decide +kernel)];exact⟨rfl,rfl⟩))
  (λos started H enc _ F=>by rw[OpenClaim.pre_eq_preRow];exact Jh os started H enc F)
theorem Kk (f:FuncId)(fn:Func)(hf:Tryz.pinned.checked.prog.funcNamed "gazetteer/gazetteerlaw7.TransferTakes" =some f)(hfn:Tryz.pinned.checked.prog.funcs[f]? =some fn):
 true=Tryz.pinned.checked.prog.looks []/\∀(j:Nat) t,fn.params[j]? =some t->Tryz.pinned.checked.prog.wantsStandIn t=false:=by
 obtain rfl:f=4:=Hr ((show Tryz.prog.funcNamed "gazetteer/gazetteerlaw7.TransferTakes" =some 4 by kernel_rfl).symm.trans hf) |>.symm
 obtain rfl:fn=Tryz.f4:=(Hr (Tryz.func4.symm.trans hfn)).symm;refine⟨by kernel_rfl,λj t ht=>?_⟩;rw[Tryz.params4]at ht;have hm:t=42\/t=4\/t=9\/t=3\/t=33\/t=23:=by simpa using Array.mem_of_getElem? ht
 rcases hm with rfl | rfl | rfl | rfl | rfl | rfl
 ·exact(show Tryz.prog.wantsStandIn 42=false by kernel_rfl)
 ·exact(show Tryz.prog.wantsStandIn 4=false by kernel_rfl)
 ·exact(show Tryz.prog.wantsStandIn 9=false by kernel_rfl)
 ·exact(show Tryz.prog.wantsStandIn 3=false by kernel_rfl)
 ·exact(show Tryz.prog.wantsStandIn 33=false by kernel_rfl)
 ·exact(show Tryz.prog.wantsStandIn 23=false by kernel_rfl)
theorem transferTakes_card:Rows.TransferTakesUptoCardSaid:=
 Claim7.holds_tied_plain_at .later [] _ _ _ _ KO (λ_ h=>by cases h) (by kernel_rfl) (λ_ h=>by cases h) transferTakesUpto_row_tie rfl ⟨rfl,rfl⟩ (by kernel_rfl) rfl Kk (by kernel_rfl)
#print axioms transferTakes_card
end Go.Proofs.YtpcmilhjpmlbpaaGreatDoor
