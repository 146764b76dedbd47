/-
  gazetteerlaw6.UpdateApplies: what a zone becomes by any messages, one behind the other: returns true for every input, each as long as the Upto form says.
-/
import Derived.Test.YtdjjemajfphjaaaGreatRows
import Derived.Test.YtdjjemajfphjaaaGreatQApplies
import Derived.Test.YtdjjemajfphjaaaGreatQOpenU
set_option maxRecDepth 100000
set_option maxHeartbeats 1000000
namespace Go.Proofs.YtdjjemajfphjaaaGreat
open Go.RowKit Go.ChangeShapes Go.WideShapes Go.ChangeAt Go.Deep
theorem applies_lifted (os:Os)(started:os.Started)(H:Type)(enc:TypeId×Value→H)(F:Stop.Interp):
 ReturnsInHanded {} Tryz.checked os 4 .any ((Rows.OpenSpec.upto Rows.updateAppliesSpec).pre6 enc Tryz.prog Tryz.f4 Rows.updateAppliesUptoRow.domain false) (((Rows.OpenSpec.upto Rows.updateAppliesSpec).at F).post enc Tryz.prog Tryz.f4 false true false false):=by
 refine returnsInHanded_of_cond (C:=Tryz.checked) (s:=Rows.OpenSpec.upto Rows.updateAppliesSpec) (k:=Rows.uptoSmall) rfl own started (by kernel_rfl) Tryz.func4
  (OpenSpec.witness (enc:=enc) (C:=Tryz.checked) (s:=Rows.OpenSpec.upto Rows.updateAppliesSpec) (k:=Rows.uptoSmall) rfl false ⟨#[],#[.string ByteArray.empty,.slice none 0 0,.slice none 0 0],[]⟩ 8 (by kernel_rfl) (by kernel_rfl) (by kernel_rfl)
   (x:=([.lit (.string []),.nil,.nil],[],[])) (by kernel_rfl) rfl (by kernel_rfl)) ?_
 intro W base args ds gs before hval0 hW _ hk _
 have hval:∀(j:Nat) t v,Tryz.f4.params[j]? =some t→args[j]? =some v→Value.okWide Tryz.prog W .any base t v:=hval0
 have hW':=hW
 obtain⟨p,q,hA0,hV,rfl,hfz,hnd⟩:=hW
 have hA:DataW.TrodAll enc Tryz.prog W 0 (fun _=>true) true Tryz.f4.params.toList args.toList ds p:=hA0
 rw[Tryz.params4]at hA hval
 obtain⟨v0,vs0,d0,ds0,p0,q0,hargs,rfl,rfl,h0,r0⟩:=trodAll_cons hA
 obtain⟨v1,vs1,d1,ds1,p1,q1,rfl,rfl,rfl,h1,r1⟩:=trodAll_cons r0
 obtain⟨v2,vs2,d2,ds2,p2,q2,rfl,rfl,rfl,h2,r2⟩:=trodAll_cons r1
 obtain⟨rfl,rfl,rfl⟩:=trodAll_nil r2
 obtain rfl:args= #[v0,v1,v2]:=by cases args;simp_all
 obtain⟨rfl,rfl⟩:=trodVars_none hV
 have hbulk:Rows.uptoBulkAll ([d0,d1,d2]:List (DataW H))≤1048576:=of_decide_eq_true (by simpa only[Rows.uptoSmall,List.append_nil] using hk)
 simp only[Rows.uptoBulkAll]at hbulk
 have k0:=h0;have k1:=h1;have k2:=h2
 have lt0:∀x∈p0,x.block<W.heap.size:=by obtain⟨m,hm⟩:=k0;exact DataW.trod_lt m _ _ _ hm
 have lt1:∀x∈p1,x.block<W.heap.size:=by obtain⟨m,hm⟩:=k1;exact DataW.trod_lt m _ _ _ hm
 have lt2:∀x∈p2,x.block<W.heap.size:=by obtain⟨m,hm⟩:=k2;exact DataW.trod_lt m _ _ _ hm
 obtain⟨s0,rfl⟩:=okWide_string Tryz.underlying9 (hval 0 9 v0 rfl rfl)
 obtain⟨fu0,hf0⟩:=h0
 obtain⟨s0',e0,z0,_⟩:=DataW.trod_string Tryz.underlying9 hf0
 have q0':s0=s0':=by
  have h:[Value.string s0]= [Value.string s0']:=e0
  simpa using h
 subst q0'
 have b0:s0.size≤1099511627776:=by
  have h1:=Qq.UJ (H:=H) s0
  have h2:d0= .lit (.string s0.data.toList):=congrArg Prod.fst z0
  rw[← h2]at h1
  omega
 obtain⟨a1,n1,c1,rfl⟩:=okWide_slice Tryz.underlying22 (hval 1 22 v1 rfl rfl)
 have form1:=okWide_form Tryz.underlying22 (hval 1 22 (.slice a1 n1 c1) rfl rfl)
 obtain⟨fu1,hf1⟩:=h1
 obtain⟨A1,cap1,l1,e1,hn1,vV,hok1⟩:=Ju (v:=.slice a1 n1 c1) hf1
 have hb1:l1.length≤1048576∧∀r∈l1,r.owner.size≤1099511627776:=by
  have hff:=hf1
  rw[e1]at hff
  obtain⟨h1,h2⟩:=Jt hff vV
  have h3:Rows.uptoBulk d1≤1048576:=by omega
  exact⟨Nat.le_trans h1 h3,fun r hr=>by have:=h2 r hr;have h4:r.owner.size≤Rows.uptoBulk d1:=this;omega⟩
 obtain⟨a2,n2,c2,rfl⟩:=okWide_slice Tryz.underlying36 (hval 2 36 v2 rfl rfl)
 obtain⟨fu2,hf2⟩:=h2
 obtain⟨A2,cap2,l2,e2,hn2,hrv2⟩:=open_msgs (v:=.slice a2 n2 c2) hf2 (show Rows.uptoBulk d2≤1048576 by omega)
 clear hA0 hval0
 have walk:Calls Tryz.prog 4 #[.string s0,.slice a1 n1 c1,.slice a2 n2 c2] W fun e w'=>e= .returned (.bool true)∧Below W.heap.size W w':=by
  rw[e1]at form1 ⊢
  rw[e2]
  exact applies_any s0 b0 l1 hok1 hb1.2 _ form1 l2 hn2 _ W vV hrv2
 refine walk.mono fun e W' ⟨he,bel⟩=>?_
 subst he
 exact⟨_,rfl,_,_,_,[],_,[],hW',trodAll_mk1 (shut_bool Tryz.underlying4 _),(trodAll_cons_mk (Below.trod laidOut (by kernel_rfl) (of_decide_eq_true (by kernel_rfl)) k0 bel lt0) (trodAll_cons_mk (Below.trod laidOut (by kernel_rfl) (of_decide_eq_true (by kernel_rfl)) k1 bel lt1) (trodAll_cons_mk (Below.trod laidOut (by kernel_rfl) (of_decide_eq_true (by kernel_rfl)) k2 bel lt2) trodAll_mk0))),rfl,bel.frame _,fun h=>by cases h⟩
theorem updateApplies_upto:Rows.UpdateAppliesUptoSaid:=
 OpenClaim.holds_of_cond 4 Tryz.f4 rfl rfl rfl rfl rfl rfl rfl ⟨rfl,rfl,rfl,rfl,rfl⟩ rfl rfl rfl rfl rfl (by kernel_rfl) Tryz.func4 (by kernel_rfl)
  (of_decide_eq_true (by kernel_rfl)) (by unfold Func.isWrapper;first | (rw[if_pos (by decide +kernel)];kernel_rfl) | (rw[if_neg (by decide +kernel)];exact⟨rfl,rfl⟩))
  (fun os started H enc _ F=>applies_lifted os started H enc F)
#print axioms updateApplies_upto
end Go.Proofs.YtdjjemajfphjaaaGreat
