import Derived.Test.YtpcmilhjpmlbpaaGreatDoorRows
import Derived.Test.YtpcmilhjpmlbpaaGreatDoorQTwR
import Derived.Test.YtpcmilhjpmlbpaaGreatDoorQCpI
import Derived.LaidHandle
import Derived.Stop.Joined
import Derived.LaidLaws
set_option maxRecDepth 100000
set_option maxHeartbeats 1000000
namespace Go.Proofs.YtpcmilhjpmlbpaaGreatDoor
open Go.RowKit Go.ChangeShapes Go.WideShapes Go.ChangeAt Go.Deep Go.Joins
section
variable {H:Type}{enc:TypeId×Value->H}{P:Program}{w:World}{base:Nat}{spare:Nat->Bool}{held:Bool}
theorem open_agg2 {t:TypeId}{f0 f1:Field}{cs:List Value}{fuel:Nat}{x:DataW H×List MemPlace}(hs:P.underlying t=some (.struct #[f0,f1]))(hone:oneCellFields P #[f0,f1]=true)
 (hsz:cs.length=2) (hf:DataW.trod enc P w base spare held fuel t cs=some x):
 ∃(v0 v1:Value) (y0 y1:DataW H×List MemPlace) (n:Nat),cs= [v0,v1]/\x.1= .agg [y0.1,y1.1]/\DataW.trod enc P w base spare held n f0.type [v0]=some y0/\DataW.trod enc P w base spare held n f1.type [v1]=some y1:=by
 match cs,hsz with
 | [c0,c1],_=>
   obtain⟨xs,n,_,hx,_,hlen,hg⟩:=DataW.trod_struct hs hf;obtain⟨o0,k0⟩:=hone_of hone 0 f0 rfl;obtain⟨o1,k1⟩:=hone_of hone 1 f1 rfl
   match xs,hlen with
   | [y0,y1],_=>
     have hx1:=congrArg Prod.fst hx;exact⟨c0,c1,y0,y1,n,rfl,by simpa using hx1,by simpa[Value.cells,o0,k0] using hg 0 f0 rfl,by simpa[Value.cells,o1,k1] using hg 1 f1 rfl⟩
end
section
variable {H:Type}{enc:TypeId×Value->H}{W:World}{spare:Nat->Bool}{held:Bool}
theorem open_lot {v:Value}{d:DataW H}{p:List MemPlace}{r:Reach}{b0:Nat}(hv:Value.okWide Tryz.prog W r b0 42 v)(h:DataW.Trod enc Tryz.prog W 0 spare held 42 v d p)(hb:Rows.uptoBulk d<=1048576):
 ∃(ap:ByteArray) (l:List Rec) (rv:Value),v= .agg #[.string ap,rv]/\ql W rv l/\yn rv/\l.length<=1048576/\ap.size<=1099511627776/\(∀r∈l,(Lit.int .i64 r.typ).wf=true)/\∀r∈l,r.owner.size<=1099511627776:=by
 simp only[Value.okWide,Tryz.underlying42]at hv;obtain⟨cs,rfl,hsz,-⟩:=hv;have hC:Tryz.prog.cellsOf 42=2:=by kernel_rfl
 rw[hC]at hsz;obtain⟨l⟩:=cs;obtain⟨fuel,hf⟩:=h;have hl:l.length=2:=hsz;obtain⟨v0,v1,y0,y1,n,rfl,hx,t0,t1⟩:=open_agg2 Tryz.underlying42 (by kernel_rfl) hl hf;obtain⟨s,e0,hs,_⟩:=DataW.trod_string Tryz.underlying9 t0;have fa:=Ye Tryz.underlying31 t1;obtain⟨a1,c1,l1,e1,_,r1,k1⟩:=xS t1;simp only[List.cons.injEq,and_true]at e0;subst e0 e1;obtain⟨n1,z1⟩:=xR t1 r1;have hd:d= .agg [y0.1,y1.1]:=hx;have b0':Rows.uptoBulk y0.1<=Rows.uptoBulk d:=by rw[hd];exact uq.xY (by simp)
 have b1':Rows.uptoBulk y1.1<=Rows.uptoBulk d:=by rw[hd];exact uq.xY (by simp)
 have h1:=uq.JX (H:=H) s;have h2:y0.1= .lit (.string s.data.toList):=congrArg Prod.fst hs;rw[<- h2]at h1;exact⟨s,l1,_,rfl,r1,fa,by omega,by omega,k1,λr hr=>by have:=z1 r hr;omega⟩
end
end Go.Proofs.YtpcmilhjpmlbpaaGreatDoor
namespace Go.Proofs.YtpcmilhjpmlbpaaGreatDoor
open Go.RowKit Go.ChangeShapes Go.WideShapes Go.ChangeAt
namespace ha
theorem et:Tryz.prog.globalNamed "errors.errorType" =some 0:=by kernel_rfl
theorem rt:(Tryz.prog.cutTypes.find? (·.1 == "internal/reflectlite.rtype")).map (·.2)=some 191:=by kernel_rfl
theorem oneRow:((List.range 295).filter λt=>Tryz.prog.rowNamed t [101,114,114,111,114])= [99]:=by kernel_rfl
theorem size:Tryz.prog.types.size=295:=by kernel_rfl
end ha
theorem errT_of_laid {W:World}(h:laidMetH Tryz.prog [("errors.errorType",Rows.laid_errors_errorType)] W):ErrT W:=by
 have h':laidMet Tryz.prog [] W∧handlesMet Tryz.prog [("errors.errorType",Rows.laid_errors_errorType)] W:=h
 obtain⟨name,u,ty,e1,e2,e3,e4,e5⟩:=h'.2 _ (List.mem_singleton.2 rfl);have en:name= [101,114,114,111,114]:=(Hr e1).symm;subst en;obtain rfl:=Hr (ha.rt.symm.trans e2);have hm:ty∈(List.range 295).filter λt=>Tryz.prog.rowNamed t [101,114,114,111,114]:=List.mem_filter.2 ⟨List.mem_range.2 (by rw[<- ha.size];exact e3),e4⟩;rw[ha.oneRow]at hm;obtain rfl:=List.mem_singleton.1 hm;have hh:typeHandle Tryz.prog 99= .pointer (some ⟨2,99,none⟩):=by kernel_rfl
 rw[hh]at e5;unfold ErrT
 simpa using World.var?_cell ha.et e5 0
noncomputable def VI (os:Os):World:=
 { World.holding Tryz.prog os ⟨#[],#[],[]⟩ with heap:=(World.holding Tryz.prog os ⟨#[],#[],[]⟩).heap.modify 0 fun
  | .cells _ t frozen=>.cells #[.iface 191 (.agg #[.pointer (some ⟨2,99,none⟩)])] t frozen
  | o=>o}
theorem laid_met (os:Os)(args:Array Value):laidMetH Tryz.prog [("errors.errorType",Rows.laid_errors_errorType)] ((VI os).forCall (fun _ _=>0) ⟨#[],args,[]⟩).memory:=
 laidMetH_of_parts (laidMet_nil _ _) (by kernel_rfl)
end Go.Proofs.YtpcmilhjpmlbpaaGreatDoor
