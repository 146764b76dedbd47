/-
  TransferCopies, where the arguments are of bulk at most 1048576: it answers true, and each argument reads as before.
-/
import Derived.Test.YtpcmilhjpmlbpaaGreatDoorCards
import Derived.Test.YtpcmilhjpmlbpaaGreatDoorTie
import Derived.Test.YtpcmilhjpmlbpaaGreatDoorQCpQ
import Derived.Test.YtpcmilhjpmlbpaaGreatDoorQHand
import Derived.Deep.DeepHandedRow
import Derived.SevenTiedAt
set_option maxRecDepth 100000
set_option maxHeartbeats 1000000
namespace Go.Proofs.YtpcmilhjpmlbpaaGreatDoor
open Go.RowKit Go.ChangeShapes Go.WideShapes Go.ChangeAt Go.Deep
theorem transferCopies_reads (os:Os){H:Type}(enc:TypeId×Value→H):∃places,DataW.whole enc Tryz.prog ((laidWorld os).forCall (fun _ _=>0) ⟨#[],#[.slice none 0 0,.int .i64 0,.bool false,.int .i64 0,.int .i64 0],[]⟩).memory Tryz.f5.params.toList Rows.transferCopiesSpec.vars false #[(.slice none 0 0:Value),(.int .i64 0:Value),(.bool false:Value),(.int .i64 0:Value),(.int .i64 0:Value)].toList 8=some ([.nil,.lit (.int .i64 0),.lit (.bool false),.lit (.int .i64 0),.lit (.int .i64 0)],[],places):=
 ⟨[],by kernel_rfl⟩
theorem transferCopies_lifted (os:Os)(started:os.Started)(H:Type)(enc:TypeId×Value→H)(F:Stop.Interp):
 ReturnsInHanded {} Tryz.checked os 5 .any ((Rows.OpenSpec.upto Rows.transferCopiesSpec).preRow enc Tryz.prog Tryz.f5 Rows.transferCopiesUptoRow.domain false Rows.transferCopiesUptoRow.laid) (((Rows.OpenSpec.upto Rows.transferCopiesSpec).at F).post enc Tryz.prog Tryz.f5 false true false false):=by
 obtain⟨places,hx⟩:=transferCopies_reads os enc
 refine returnsInHanded_of_row (C:=Tryz.checked) (s:=Rows.OpenSpec.upto Rows.transferCopiesSpec) own started (by kernel_rfl) Tryz.func5
  (witness_row_at (enc:=enc) (C:=Tryz.checked) false (laidWorld os) #[.slice none 0 0,.int .i64 0,.bool false,.int .i64 0,.int .i64 0] rfl (by kernel_rfl) (by kernel_rfl) (by kernel_rfl)
   (OpenSpec.preRow_of_cond 8 hx (by kernel_rfl) (fun k hk=>by cases hk;kernel_rfl) (by kernel_rfl) (laid_met os _))) ?_
 intro W base args ds gs before hval0 hW _ hcond _ hL _ _
 have hk:=hcond _ rfl
 have hET:ErrT W:=errT_of_laid hL
 have hval:∀(j:Nat) t v,Tryz.f5.params[j]? =some t→args[j]? =some v→Value.okWide Tryz.prog W .any base t v:=hval0
 have hW':=hW
 obtain⟨p,q,hA0,hV,rfl,hfz,hnd⟩:=hW
 have hA:DataW.TrodAll enc Tryz.prog W 0 (fun _=>true) true Tryz.f5.params.toList args.toList ds p:=hA0
 rw[Tryz.params5]at hA hval
 obtain⟨v0,vs0,d0,ds0,p0,q0,hargs,rfl,rfl,h0,r0⟩:=trodAll_cons hA
 obtain⟨v1,vs1,d1,ds1,p1,q1,rfl,rfl,rfl,h1,r1⟩:=trodAll_cons r0
 obtain⟨v2,vs2,d2,ds2,p2,q2,rfl,rfl,rfl,h2,r2⟩:=trodAll_cons r1
 obtain⟨v3,vs3,d3,ds3,p3,q3,rfl,rfl,rfl,h3,r3⟩:=trodAll_cons r2
 obtain⟨v4,vs4,d4,ds4,p4,q4,rfl,rfl,rfl,h4,r4⟩:=trodAll_cons r3
 obtain⟨rfl,rfl,rfl⟩:=trodAll_nil r4
 obtain rfl:args= #[v0,v1,v2,v3,v4]:=by cases args;simp_all
 obtain⟨rfl,rfl⟩:=trodVars_none hV
 have hbulk:Rows.uptoBulkAll ([d0,d1,d2,d3,d4]:List (DataW H))≤1048576:=of_decide_eq_true (by simpa only[Rows.uptoSmall,List.append_nil] using hk)
 simp only[Rows.uptoBulkAll]at hbulk
 have k0:=h0;have k1:=h1;have k2:=h2;have k3:=h3;have k4:=h4
 have lt0:∀x∈p0,x.block<W.heap.size:=by obtain⟨m,hm⟩:=k0;exact DataW.trod_lt m _ _ _ hm
 have lt1:∀x∈p1,x.block<W.heap.size:=by obtain⟨m,hm⟩:=k1;exact DataW.trod_lt m _ _ _ hm
 have lt2:∀x∈p2,x.block<W.heap.size:=by obtain⟨m,hm⟩:=k2;exact DataW.trod_lt m _ _ _ hm
 have lt3:∀x∈p3,x.block<W.heap.size:=by obtain⟨m,hm⟩:=k3;exact DataW.trod_lt m _ _ _ hm
 have lt4:∀x∈p4,x.block<W.heap.size:=by obtain⟨m,hm⟩:=k4;exact DataW.trod_lt m _ _ _ hm
 obtain⟨a0,n0,c0,rfl⟩:=okWide_slice Tryz.underlying22 (hval 0 22 v0 rfl rfl)
 obtain⟨fu0,hf0⟩:=h0
 obtain⟨A0,cap0,l0,e0,hn0,hrv0⟩:=open_lots (v:=.slice a0 n0 c0) hf0 (show Rows.uptoBulk d0≤1048576 by omega)
 obtain⟨i1,rfl⟩:=okWide_int Tryz.underlying3 (hval 1 3 v1 rfl rfl)
 obtain⟨fu1,hf1⟩:=h1
 obtain⟨i1',e1,_,w1⟩:=DataW.trod_int Tryz.underlying3 hf1
 have e1':i1=i1':=by
  have h:[Value.int .i64 i1]= [Value.int .i64 i1']:=e1
  simpa using h
 subst e1'
 obtain⟨t2,rfl⟩:=okWide_bool Tryz.underlying4 (hval 2 4 v2 rfl rfl)
 obtain⟨i3,rfl⟩:=okWide_int Tryz.underlying3 (hval 3 3 v3 rfl rfl)
 obtain⟨fu3,hf3⟩:=h3
 obtain⟨i3',e3,_,w3⟩:=DataW.trod_int Tryz.underlying3 hf3
 have e3':i3=i3':=by
  have h:[Value.int .i64 i3]= [Value.int .i64 i3']:=e3
  simpa using h
 subst e3'
 obtain⟨i4,rfl⟩:=okWide_int Tryz.underlying3 (hval 4 3 v4 rfl rfl)
 obtain⟨fu4,hf4⟩:=h4
 obtain⟨i4',e4,_,w4⟩:=DataW.trod_int Tryz.underlying3 hf4
 have e4':i4=i4':=by
  have h:[Value.int .i64 i4]= [Value.int .i64 i4']:=e4
  simpa using h
 subst e4'
 clear hA0 hval0
 have walk:Calls Tryz.prog 5 #[.slice a0 n0 c0,.int .i64 i1,.bool t2,.int .i64 i3,.int .i64 i4] W fun e w'=>e= .returned (.bool true)∧Below W.heap.size W w':=by
  rw[e0]
  exact copies_any l0 hn0 _ i1 t2 i3 i4 (wf_range w1) (wf_range w3) (wf_range w4) W hET hrv0
 refine walk.mono fun e W' ⟨he,bel⟩=>?_
 subst he
 exact⟨_,rfl,_,_,_,[],_,[],hW',trodAll_mk1 (shut_bool Tryz.underlying4 _),(trodAll_cons_mk (Below.trod laidOut (by kernel_rfl) (of_decide_eq_true (by kernel_rfl)) k0 bel lt0) (trodAll_cons_mk (Below.trod laidOut (by kernel_rfl) (of_decide_eq_true (by kernel_rfl)) k1 bel lt1) (trodAll_cons_mk (Below.trod laidOut (by kernel_rfl) (of_decide_eq_true (by kernel_rfl)) k2 bel lt2) (trodAll_cons_mk (Below.trod laidOut (by kernel_rfl) (of_decide_eq_true (by kernel_rfl)) k3 bel lt3) (trodAll_cons_mk (Below.trod laidOut (by kernel_rfl) (of_decide_eq_true (by kernel_rfl)) k4 bel lt4) trodAll_mk0))))),rfl,bel.frame _,fun h=>by cases h⟩
theorem transferCopies_upto:Rows.TransferCopiesUptoSaid:=
 OpenClaim.holds_of_cond 5 Tryz.f5 rfl rfl rfl rfl rfl rfl rfl ⟨rfl,rfl,rfl,rfl,rfl⟩ rfl rfl rfl rfl rfl (by kernel_rfl) Tryz.func5 (by kernel_rfl)
  (of_decide_eq_true (by kernel_rfl)) (by unfold Func.isWrapper;first | (rw[if_pos (by decide +kernel)];kernel_rfl) | (rw[if_neg (by decide +kernel)];exact⟨rfl,rfl⟩))
  (fun os started H enc _ F=>by rw[OpenClaim.pre_eq_preRow];exact transferCopies_lifted os started H enc F)
theorem transferCopies_plain (f:FuncId)(fn:Func)(hf:Tryz.pinned.checked.prog.funcNamed "gazetteer/gazetteerlaw7.TransferCopies" =some f)(hfn:Tryz.pinned.checked.prog.funcs[f]? =some fn):
 true=Tryz.pinned.checked.prog.looks []∧∀(j:Nat) t,fn.params[j]? =some t→Tryz.pinned.checked.prog.wantsStandIn t=false:=by
 obtain rfl:f=5:=Option.some.inj ((show Tryz.prog.funcNamed "gazetteer/gazetteerlaw7.TransferCopies" =some 5 by kernel_rfl).symm.trans hf) |>.symm
 obtain rfl:fn=Tryz.f5:=(Option.some.inj (Tryz.func5.symm.trans hfn)).symm
 refine⟨by kernel_rfl,fun j t ht=>?_⟩
 rw[Tryz.params5]at ht
 have hm:t=22∨t=3∨t=4∨t=3∨t=3:=by simpa using Array.mem_of_getElem? ht
 rcases hm with rfl | rfl | rfl | rfl | rfl
 ·exact(show Tryz.prog.wantsStandIn 22=false by kernel_rfl)
 ·exact(show Tryz.prog.wantsStandIn 3=false by kernel_rfl)
 ·exact(show Tryz.prog.wantsStandIn 4=false by kernel_rfl)
 ·exact(show Tryz.prog.wantsStandIn 3=false by kernel_rfl)
 ·exact(show Tryz.prog.wantsStandIn 3=false by kernel_rfl)
theorem transferCopies_card:Rows.TransferCopiesUptoCardSaid:=
 Claim7.holds_tied_plain_at .later [] _ _ _ _ transferCopies_upto (fun _ h=>by cases h) (by kernel_rfl) (fun _ h=>by cases h) transferCopiesUpto_row_tie rfl ⟨rfl,rfl⟩ (by kernel_rfl) rfl transferCopies_plain (by kernel_rfl)
#print axioms transferCopies_card
end Go.Proofs.YtpcmilhjpmlbpaaGreatDoor
