import Derived.Test.YtpcmilhjpmlbpaaGreatDoorQRTk
import Derived.LaidEql
import Derived.WalkKit
import Derived.RowKitTokens
import Derived.Stop.Asserts
import Derived.Deep.RegionWith
set_option maxRecDepth 100000
set_option maxHeartbeats 16000000
namespace Go.Proofs.YtpcmilhjpmlbpaaGreatDoor
open Go.RowKit Go.Extern.Stop Go.Stop Go.Extern
theorem as_nil7 (t:Value)(w:World):
 Calls Tryz.prog 53 #[.nilIface,t] w λe w'=>e= .returned (.bool false)/\w'=w:=by
 go_enter Tryz.func53,Tryz.ntmps53
 go_wp2
 go_ret;exact⟨rfl,rfl⟩
theorem as_valueP (t:Addr)(w:World):(ReflectliteValue.unpack (.iface 107 (.pointer (some t)))).run Tryz.prog w
 = .ok (.agg #[.pointer (some ⟨2,107,none⟩),.pointer (some ⟨w.heap.size,0,none⟩),.int .u64 150]) (w.alloc (.cells #[.pointer (some t)] 107)):=by kernel_rfl
theorem as_typeP (a:Addr)(w:World):(ReflectliteValue.methodAny (ReflectliteValue.valueError "reflectlite.Value.Type" 0) (fun t _ _ _=>ReflectliteType.toType t) #[.agg #[.pointer (some ⟨2,107,none⟩),.pointer (some a),.int .u64 150]]).run Tryz.prog w
 = .ok (.iface 191 (.agg #[.pointer (some ⟨2,107,none⟩)])) w:=by kernel_rfl
theorem as_methodKind (h:Value)(w:World):(Go.method 395 191 (.agg #[h]) "Kind").run Tryz.prog w= .ok (204,h) w:=by kernel_rfl
theorem as_kindP (w:World):((ReflectliteType.abiMethod λt=>(λa:Nat=>Value.int IntKind.u8 (a:Int)) <$> Rtype.kind t) #[.pointer (some ⟨2,107,none⟩)]).run Tryz.prog w= .ok (.int .u8 22) w:=by kernel_rfl
theorem as_kindS (w:World):((ReflectliteType.abiMethod λt=>(λa:Nat=>Value.int IntKind.u8 (a:Int)) <$> Rtype.kind t) #[.pointer (some ⟨2,105,none⟩)]).run Tryz.prog w= .ok (.int .u8 25) w:=by kernel_rfl
theorem as_rlm (z:Sem Value)(f:TypeId->Addr->Nat->Nat->Sem Value)(v:Value):
 ReflectliteValue.method z f #[v]=(do match <- ReflectliteValue.parts v with | none=>z | some (t,a,fl)=>f t a fl (fl % 32)):=rfl
theorem as_partsP (a:Addr)(w:World):(ReflectliteValue.parts (.agg #[.pointer (some ⟨2,107,none⟩),.pointer (some a),.int .u64 150])).run Tryz.prog w= .ok (some (107,a,150)) w:=by kernel_rfl
theorem as_isNilP (a p:Addr)(W:World)(ha:W.cell? a=some (.pointer (some p))):
 (ReflectliteValue.method (ReflectliteValue.valueError "reflectlite.Value.IsNil" 0) ReflectliteValue.isNil #[.agg #[.pointer (some ⟨2,107,none⟩),.pointer (some a),.int .u64 150]]).run Tryz.prog W= .ok (.bool false) W:=by
 rw[as_rlm];simp only[Sem.run_bind,as_partsP,Result.andThen];simp[ReflectliteValue.isNil,loadVar,isAgg,underlying,Tryz.underlying107,ha,Result.andThen]
theorem as_methodElem (h:Value)(w:World):(Go.method 395 191 (.agg #[h]) "Elem").run Tryz.prog w= .ok (214,.agg #[h]) w:=by kernel_rfl
theorem Kt (h:Value)(w:World):(Go.method 395 191 (.agg #[h]) "Implements").run Tryz.prog w= .ok (215,.agg #[h]) w:=by kernel_rfl
theorem Y9 (h:Value)(w:World):(Go.method 395 191 (.agg #[h]) "AssignableTo").run Tryz.prog w= .ok (212,.agg #[h]) w:=by kernel_rfl
theorem as_elemP (w:World):(ReflectliteType.method ReflectliteType.elem #[.agg #[.pointer (some ⟨2,107,none⟩)]]).run Tryz.prog w= .ok (.iface 191 (.agg #[.pointer (some ⟨2,105,none⟩)])) w:=by kernel_rfl
theorem as_implementsS (w:World):(ReflectliteType.relation "Implements" ReflectliteType.implements_ #[.agg #[.pointer (some ⟨2,105,none⟩)],.iface 191 (.agg #[.pointer (some ⟨2,99,none⟩)])]).run Tryz.prog w= .ok (.bool true) w:=by kernel_rfl
theorem as_typeOfS (v:Value)(w:World):(ReflectliteType.typeOf #[.iface 105 v]).run Tryz.prog w= .ok (.iface 191 (.agg #[.pointer (some ⟨2,105,none⟩)])) w:=by kernel_rfl
theorem as_assignableS (w:World):(ReflectliteType.relation "AssignableTo" ReflectliteType.assignableTo #[.agg #[.pointer (some ⟨2,105,none⟩)],.iface 191 (.agg #[.pointer (some ⟨2,105,none⟩)])]).run Tryz.prog w= .ok (.bool true) w:=by kernel_rfl
theorem as_valueS (c:Int)(w:World):(ReflectliteValue.unpack (.iface 105 (.agg #[.int .i64 c]))).run Tryz.prog w
 = .ok (.agg #[.pointer (some ⟨2,105,none⟩),.pointer (some ⟨w.heap.size,0,none⟩),.int .u64 153]) (w.alloc (.cells #[.int .i64 c] 105)):=by kernel_rfl
theorem as_elemOfP (w:World):(Rtype.elem? 107).run Tryz.prog w= .ok (some 105) w:=by kernel_rfl
theorem as_mkS (p:Addr)(w:World):(ReflectliteValue.mk 105 p ReflectliteValue.flagAddr).run Tryz.prog w= .ok (.agg #[.pointer (some ⟨2,105,none⟩),.pointer (some p),.int .u64 409]) w:=by kernel_rfl
theorem as_elemVP (a p:Addr)(W:World)(ha:W.cell? a=some (.pointer (some p))):
 (ReflectliteValue.method (ReflectliteValue.valueError "reflectlite.Value.Elem" 0) ReflectliteValue.elem #[.agg #[.pointer (some ⟨2,107,none⟩),.pointer (some a),.int .u64 150]]).run Tryz.prog W
  = .ok (.agg #[.pointer (some ⟨2,105,none⟩),.pointer (some p),.int .u64 409]) W:=by
 rw[as_rlm];simp only[Sem.run_bind,as_partsP,Result.andThen];simp[ReflectliteValue.elem,loadVar,isAgg,underlying,Tryz.underlying107,ha,Result.andThen,as_elemOfP,as_mkS]
theorem as_rls (v x:Value):ReflectliteValue.set #[v,x]=(do
 let (some (dst,a,fl),some (src,b,_)):=(<- ReflectliteValue.parts v,<- ReflectliteValue.parts x)
  | unsupported (.noEntry "extern/(internal/reflectlite.Value).Set.zeroValue")
 if fl / ReflectliteValue.flagAddr % 2 == 0 then unsupported (.noEntry "extern/(internal/reflectlite.Value).Set.unaddressable")
 let val <- loadVar src b
 if <- Rtype.directlyAssignable dst src then storeVar dst a val
 else if <- Rtype.implements dst src then
  if(<- Rtype.kind src) == 20 then
   match val with
   | .nilIface=>unsupported (.noEntry "extern/reflectlite: a nil value of one interface type handed on as a value of another")
   | _=>storeVar dst a val
  else storeVar dst a (.iface src val)
 else panicString ("reflectlite.Set: value of type " ++ (← Rtype.spelt src) ++ " is not assignable to type " ++ (← Rtype.spelt dst))
 pure (.tuple #[])):=rfl
theorem as_partsSa (a:Addr)(w:World):(ReflectliteValue.parts (.agg #[.pointer (some ⟨2,105,none⟩),.pointer (some a),.int .u64 409])).run Tryz.prog w= .ok (some (105,a,409)) w:=by kernel_rfl
theorem as_partsS (a:Addr)(w:World):(ReflectliteValue.parts (.agg #[.pointer (some ⟨2,105,none⟩),.pointer (some a),.int .u64 153])).run Tryz.prog w= .ok (some (105,a,153)) w:=by kernel_rfl
theorem as_directS (w:World):(Rtype.directlyAssignable 105 105).run Tryz.prog w= .ok true w:=by kernel_rfl
theorem as_setS (ta b:Addr)(c:Int)(old:Value)(W:World)(hb:W.cell? b=some (.int .i64 c))(ht:W.cell? ta=some old)(hf:W.frozen? ta=false):
 (ReflectliteValue.set #[.agg #[.pointer (some ⟨2,105,none⟩),.pointer (some ta),.int .u64 409],.agg #[.pointer (some ⟨2,105,none⟩),.pointer (some b),.int .u64 153]]).run Tryz.prog W
  = .ok (.tuple #[]) (W.setCell ta (.int .i64 c)):=by
 rw[as_rls];simp only[Sem.run_bind,as_partsSa,as_partsS,Result.andThen];simp[ReflectliteValue.flagAddr,loadVar,isAgg,underlying,Tryz.underlying105,hb,Result.andThen,as_directS,loadCells,loadCellsFrom,storeVar,Value.cells,storeCells,Addr.add];rw[run_store Tryz.prog W ta _ _ (by rfl)];simp[ht,hf]
theorem as_hit7 (c:Int)(t:Addr)(old:Value)(w:World)(hg:w.cell? ⟨0,0,none⟩=some (.iface 191 (.agg #[.pointer (some ⟨2,99,none⟩)])))(ht0:w.cell? t=some old)(hf0:w.frozen? t=false):
 Calls Tryz.prog 53 #[.iface 105 (.agg #[.int .i64 c]),.iface 107 (.pointer (some t))] w λev w'=>ev= .returned (.bool true)/\∃w1,Below w.heap.size w w1/\w'=w1.setCell t (.int .i64 c):=by
 have h6:=@run_callFunc_extern Tryz.prog 92 _ (λargs=>ReflectliteValue.unpack (args.getD 0 (.tuple #[]))) Tryz.func92 (by kernel_rfl) (by kernel_rfl) (by kernel_rfl) (by kernel_rfl)
 have h7:=@run_callFunc_extern Tryz.prog 93 _ (ReflectliteValue.methodAny (ReflectliteValue.valueError "reflectlite.Value.Type" 0) (fun t _ _ _=>ReflectliteType.toType t)) Tryz.func93 (by kernel_rfl) (by kernel_rfl) (by kernel_rfl) (by kernel_rfl)
 have h8:=@run_callFunc_extern Tryz.prog 94 _ (ReflectliteValue.method (ReflectliteValue.valueError "reflectlite.Value.IsNil" 0) ReflectliteValue.isNil) Tryz.func94 (by kernel_rfl) (by kernel_rfl) (by kernel_rfl) (by kernel_rfl)
 have h27:=@run_callFunc_extern Tryz.prog 204 _ (ReflectliteType.abiMethod λt=>do pure (.int .u8 (<- Rtype.kind t))) Tryz.func204 (by kernel_rfl) (by kernel_rfl) (by kernel_rfl) (by kernel_rfl);have h37:=@run_callFunc_extern Tryz.prog 214 _ (ReflectliteType.method ReflectliteType.elem) Tryz.func214 (by kernel_rfl) (by kernel_rfl) (by kernel_rfl) (by kernel_rfl)
 have h38:=@run_callFunc_extern Tryz.prog 215 _ (ReflectliteType.relation "Implements" ReflectliteType.implements_) Tryz.func215 (by kernel_rfl) (by kernel_rfl) (by kernel_rfl) (by kernel_rfl)
 have h10:=@run_callFunc_extern Tryz.prog 143 _ ReflectliteType.typeOf Tryz.func143 (by kernel_rfl) (by kernel_rfl) (by kernel_rfl) (by kernel_rfl)
 have h35:=@run_callFunc_extern Tryz.prog 212 _ (ReflectliteType.relation "AssignableTo" ReflectliteType.assignableTo) Tryz.func212 (by kernel_rfl) (by kernel_rfl) (by kernel_rfl) (by kernel_rfl)
 have h11:=@run_callFunc_extern Tryz.prog 144 _ (ReflectliteValue.method (ReflectliteValue.valueError "reflectlite.Value.Elem" 0) ReflectliteValue.elem) Tryz.func144 (by kernel_rfl) (by kernel_rfl) (by kernel_rfl) (by kernel_rfl)
 have h12:=@run_callFunc_extern Tryz.prog 145 _ ReflectliteValue.set Tryz.func145 (by kernel_rfl) (by kernel_rfl) (by kernel_rfl) (by kernel_rfl);have tO:=as_typeOfS;have mA:=Y9;have a25:=as_assignableS;have v25:=as_valueS;have f6:=as_valueP;have f7:=as_typeP;have mK:=as_methodKind;have mE:=as_methodElem;have mI:=Kt;have k27:=as_kindP;have k25:=as_kindS;have e27:=as_elemP;have i25:=as_implementsS;have n8:=as_isNilP ⟨w.heap.size,0,none⟩ t ((w.alloc (.cells #[.pointer (some t)] 107)).alloc (.cells #[.pointer (some ⟨2,107,none⟩),.pointer (some ⟨w.heap.size,0,none⟩),.int .u64 150] 157)) (by simp);have hlt:0<w.heap.size:=by
  rcases Nat.eq_zero_or_pos w.heap.size with h0 | h
  ·simp[World.cell?,h0]at hg
  ·exact h
 have hg2:((w.alloc (.cells #[.pointer (some t)] 107)).alloc (.cells #[.pointer (some ⟨2,107,none⟩),.pointer (some ⟨w.heap.size,0,none⟩),.int .u64 150] 157)).cell? ⟨0,0,none⟩=some (.iface 191 (.agg #[.pointer (some ⟨2,99,none⟩)])):=by
  rw[World.cell?_alloc_lt _ _ ⟨0,0,none⟩ (by simp),World.cell?_alloc_lt _ _ ⟨0,0,none⟩ hlt];exact hg
 have htl:t.block<w.heap.size:=by
  rcases Nat.lt_or_ge t.block w.heap.size with h | h
  ·exact h
  ·simp[World.cell?,Array.getElem?_eq_none h]at ht0
 have el:=as_elemVP ⟨w.heap.size,0,none⟩ t (((w.alloc (.cells #[.pointer (some t)] 107)).alloc (.cells #[.pointer (some ⟨2,107,none⟩),.pointer (some ⟨w.heap.size,0,none⟩),.int .u64 150] 157)).alloc (.cells #[.pointer (some ⟨2,107,none⟩),.pointer (some ⟨w.heap.size,0,none⟩),.int .u64 150] 157)) (by rw[World.cell?_alloc_lt _ _ ⟨w.heap.size,0,none⟩ (by simp;omega)];simp)
 have st:=as_setS t ⟨w.heap.size+1+1+1,0,none⟩ c old ((((w.alloc (.cells #[.pointer (some t)] 107)).alloc (.cells #[.pointer (some ⟨2,107,none⟩),.pointer (some ⟨w.heap.size,0,none⟩),.int .u64 150] 157)).alloc (.cells #[.pointer (some ⟨2,107,none⟩),.pointer (some ⟨w.heap.size,0,none⟩),.int .u64 150] 157)).alloc (.cells #[.int .i64 c] 105))
  (by rw[World.cell?_alloc_at _ _ _ _ (by simp)];rfl)
  (by rw[World.cell?_alloc_lt _ _ t (by simp;omega),World.cell?_alloc_lt _ _ t (by simp;omega),World.cell?_alloc_lt _ _ t (by simp;omega),World.cell?_alloc_lt _ _ t htl];exact ht0)
  (by rw[World.frozen?_alloc_old _ _ t (by simp;omega),World.frozen?_alloc_old _ _ t (by simp;omega),World.frozen?_alloc_old _ _ t (by simp;omega),World.frozen?_alloc_old _ _ t (Nat.ne_of_lt htl)];exact hf0)
 go_enter Tryz.func53,Tryz.ntmps53
 go_wp2
 refine wp_loop_rounds 1 ?_;rw[rounds_succ]
 go_wp2
 go_ret;exact⟨rfl,_,((((gJ w.heap.size w).alloc (gI _) _).alloc (by simp) _).alloc (by simp;omega) _).alloc (by simp;omega) _,rfl⟩
end Go.Proofs.YtpcmilhjpmlbpaaGreatDoor
namespace Go.Proofs.YtpcmilhjpmlbpaaGreatDoor
open Go.RowKit Go.Shelf nm od
def ErrT (w:World):Prop:=w.cell? ⟨0,0,none⟩=some (.iface 191 (.agg #[.pointer (some ⟨2,99,none⟩)]))
theorem ErrT.below {w w':World}(h:ErrT w)(hB:Below w.heap.size w w'):ErrT w':=(hB.cell (p:=⟨0,0,none⟩) (World.block_lt_of_cell? _ _ h)).trans h
def kF (o:tr.Out)(zv:Value)(w:World)(e:Ending)(w':World):Prop:=Below w.heap.size w w'/\match o with
 | .err c=>c≠0/\e= .returned (.tuple #[.pointer none,.int .i64 c])
 | .same=>e= .returned (.tuple #[zv,.int .i64 0])
 | .make ap l=>(zn.yG ap l=none/\∃top z L,zL l L/\e= .returned (.tuple #[qX z,.int .i64 0])/\jB w' top z ap L)\/∃k c,zn.yG ap l=some (k,c)/\c≠0/\e= .returned (.tuple #[.pointer none,.int .i64 c])
theorem Jg {a b c d:Value}(h:Ending.returned (.tuple #[a,b])= .returned (.tuple #[c,d])):a=c/\b=d:=by
 simp only[Ending.returned.injEq,Value.tuple.injEq,Array.mk.injEq,List.cons.injEq,and_true]at h;exact h
theorem take7_any (Z:Option tr.Zn)(zv:Value)(hi:Int)(rs:Bool)(op:Int)(b3 b4 b5 b6 b7 b8:Bool)(rc:Int)(qs:List Qn)(an au ad:List Rec)
 (hq:qs.length<=1000000000000) (ha:an.length<=1000000000000) (hu:au.length<=1000000000000) (hd:ad.length<=1000000000000)
 (q a u d:Value) (xs:List Msg) (hxl:xs.length<=1000000000) (hrl:(tr.rowsOf xs).length<=10000000) (xv:Value) (w:World) (het:ErrT w) (hz:VV w zv Z) (rq:yw w q qs) (ra:ql w a an) (ru:ql w u au) (rd:ql w d ad) (hx:uf w xv xs):
 Calls Tryz.prog 20 #[zv,yu ⟨hi,rs,op,b3,b4,b5,b6,b7,b8,rc⟩ q a u d,xv] w λe w'=>kF (tr.jf Z ⟨⟨hi,rs,op,b3,b4,b5,b6,b7,b8,rc⟩,qs,an,au,ad⟩ xs) zv w e w':=by
 obtain⟨zp,rfl⟩:∃p,zv= .pointer p:=by
  rcases hz with⟨-,h⟩|⟨A,z,-,h,-⟩
  ·exact⟨_,h⟩
  ·exact⟨_,h⟩
 obtain⟨w1,hw1⟩:=yM (w.alloc (.cells (yT ⟨hi,rs,op,b3,b4,b5,b6,b7,b8,rc⟩ q a u d).toArray 33));obtain⟨hB1,hs1,hm1⟩:=zG hw1;obtain⟨bm,hbm⟩:=yM w.heap.size;rw[<- hbm]at hm1;obtain⟨M0,hM0⟩:=yM ((⟨⟨hi,rs,op,b3,b4,b5,b6,b7,b8,rc⟩,qs,an,au,ad⟩:Msg));have HG:=qe (show Calls Tryz.prog 51 #[.pointer zp,yu ⟨hi,rs,op,b3,b4,b5,b6,b7,b8,rc⟩ q a u d,xv] w1 λe w'=>yP Z M0 (.pointer zp) xs w1 e w' from by
  rw[hM0];exact tgather_any Z (.pointer zp) hi rs op b3 b4 b5 b6 b7 b8 rc qs an au ad hq ha hu hd q a u d xs hxl hrl xv w1 (hz.below hB1) (rq.below hB1) (ra.below hB1) (ru.below hB1) (rd.below hB1) (hx.below hB1))
 rw[<- hM0];obtain⟨o0,ho0⟩:=yM (tr.jf Z M0 xs);rw[<- ho0];have HO0:=qe ho0;clear ho0;obtain⟨qa,qc,rfl,-⟩:=id rq;obtain⟨aa,ac,rfl,-⟩:=id ra;obtain⟨ua,uc,rfl,-⟩:=id ru;obtain⟨da,dc,rfl,-⟩:=id rd;obtain⟨xa,xc,rfl,-⟩:=id hx;obtain⟨m0,m1,m2,m3,m4,m5,m6,m7,m8,m9,m10,m11,m12,m13⟩:=hm1.facts;have HW1:=qe hw1;have HBM:=qe hbm;have HB1:=qe hB1;have HET:=qe het;clear hw1 hB1 hs1 hm1 hbm hz rq ra ru rd hq ha hu hd hM0 hxl hrl hx het
 go_enter Tryz.func20,Tryz.ntmps20
 go_upto_region 1 with fail;rw[<- HW1.out,<- HBM.out];go_wp2_with fail;refine HG.out.mono ?_;intro e w2 hp;obtain⟨hB2,hp⟩:=hp;have QW:=qe (gm HB1.out hB2);clear hB2 m0 m1 m2 m3 m4 m5 m6 m7 m8 m9 m10 m11 m12 m13 HG;rcases hp with⟨c,hc,ho,rfl⟩|⟨t,n,s,Zo,x,tl,v,rfl,ho,hl,hwf,hx,hd,hsz,hta⟩
 ·have HOO:=qe (show o0= .err c from HO0.out.trans ho);have HC:=qe hc;clear ho hc;obtain⟨w6,hw6⟩:=yM (w2.alloc (.cells #[.int .i64 0] 105));obtain⟨tb,htb⟩:=yM w2.heap.size;have hB6:Below w2.heap.size w2 w6:=by rw[hw6];exact(gJ _ _).alloc (gI _) _
  have hn6:w6.heap[tb]? =some (.cells #[.int .i64 0] 105 (0,0)):=by rw[hw6,htb];exact qz rfl
  have HB6:=qe (gm QW.out hB6);have HAS:=qe (as_hit7 c ⟨tb,0,none⟩ (.int .i64 0) w6 (HET.out.below HB6.out) (by rw[qg hn6];rfl) (qB hn6 0));have HW6:=qe hw6;have HTB:=qe htb;have HN6:=qe hn6;have HBL:=qe QW.out.size;clear hw6 htb hB6 hn6;go_upto_region 5 with fail;rw[<- HW6.out,<- HTB.out];go_wp2_with fail;refine HAS.out.mono ?_;rintro e w7 ⟨rfl,w8,hB8,rfl⟩;have h8:=(hB8.block tb (zm HN6.out)).trans HN6.out;have c8:(w8.setCell ⟨tb,0,none⟩ (.int .i64 c)).cell? ⟨tb,0,none⟩=some (.int .i64 c):=by rw[qg (qC h8 0 _)];rfl
  have HB9:=qe (((HB6.out).trans (hB8.mono HB6.out.size)).setCell (p:=⟨tb,0,none⟩) (by show w.heap.size<=tb;rw[HTB.out];exact HBL.out) (.int .i64 c));obtain⟨w9,hw9⟩:=yM (w8.setCell ⟨tb,0,none⟩ (.int .i64 c));rw[<- hw9]at c8 HB9 ⊢
  have HE:=qe (show ∀X,Below w9.heap.size w9 X->kF o0 (.pointer zp) w (.returned (.tuple #[.pointer none,.int .i64 c])) X from λX hX=>by
   rw[HOO.out];exact⟨HB9.out.trans (hX.mono HB9.out.size),HC.out,rfl⟩)
  clear hw9 h8 hB8;go_upto_region 6 with fail
  go_region
  all_goals (go_wp2_with fail;go_ret2;first | exact HE.out _ (gJ _ _).drew | exact HE.out _ (gJ _ _))
 ·obtain⟨o,hoo⟩:=yM (tr.QO Zo n (x :: tl));have HO1:=qe (show o0=o from HO0.out.trans (ho.trans hoo.symm));have hT:=ttake_any t (.pointer zp) Zo n s x tl hl hwf hx hd v w2 hsz hta;rw[<- hoo]at hT;have HT:=qe hT;clear ho hoo hl hwf hx hd hsz hta hT;go_wp2_with fail;refine HT.out.mono ?_;intro e w3 hp;obtain⟨hB3,r1,r2,rfl,hp⟩:=hp.two;have Z4:=qe (gm QW.out hB3);clear hB3 HT
  cases o with
  | err c=>
    obtain⟨hc,-,hv⟩:=hp;obtain⟨rfl,rfl⟩:=Jg hv;have HOO:=qe HO1.out;have HC:=qe hc;clear hc hv;obtain⟨w6,hw6⟩:=yM (w3.alloc (.cells #[.int .i64 0] 105));obtain⟨tb,htb⟩:=yM w3.heap.size;have hB6:Below w3.heap.size w3 w6:=by rw[hw6];exact(gJ _ _).alloc (gI _) _
    have hn6:w6.heap[tb]? =some (.cells #[.int .i64 0] 105 (0,0)):=by rw[hw6,htb];exact qz rfl
    have HB6:=qe (gm Z4.out hB6);have HAS:=qe (as_hit7 c ⟨tb,0,none⟩ (.int .i64 0) w6 (HET.out.below HB6.out) (by rw[qg hn6];rfl) (qB hn6 0));have HW6:=qe hw6;have HTB:=qe htb;have HN6:=qe hn6;have HBL:=qe Z4.out.size;clear hw6 htb hB6 hn6;go_upto_region 5 with fail;rw[<- HW6.out,<- HTB.out];go_wp2_with fail;refine HAS.out.mono ?_;rintro e w7 ⟨rfl,w8,hB8,rfl⟩;have h8:=(hB8.block tb (zm HN6.out)).trans HN6.out;have c8:(w8.setCell ⟨tb,0,none⟩ (.int .i64 c)).cell? ⟨tb,0,none⟩=some (.int .i64 c):=by rw[qg (qC h8 0 _)];rfl
    have HB9:=qe (((HB6.out).trans (hB8.mono HB6.out.size)).setCell (p:=⟨tb,0,none⟩) (by show w.heap.size<=tb;rw[HTB.out];exact HBL.out) (.int .i64 c));obtain⟨w9,hw9⟩:=yM (w8.setCell ⟨tb,0,none⟩ (.int .i64 c));rw[<- hw9]at c8 HB9 ⊢
    have HE:=qe (show ∀X,Below w9.heap.size w9 X->kF o0 (.pointer zp) w (.returned (.tuple #[.pointer none,.int .i64 c])) X from λX hX=>by
     rw[HOO.out];exact⟨HB9.out.trans (hX.mono HB9.out.size),HC.out,rfl⟩)
    clear hw9 h8 hB8;go_upto_region 6 with fail
    go_region
    all_goals (go_wp2_with fail;go_ret2;first | exact HE.out _ (gJ _ _).drew | exact HE.out _ (gJ _ _))
  | same=>
    obtain⟨-,hv⟩:=hp;obtain⟨rfl,rfl⟩:=Jg hv;have HOO:=qe HO1.out;clear hv;obtain⟨w6,hw6⟩:=yM (w3.alloc (.cells #[.int .i64 0] 105));obtain⟨tb,htb⟩:=yM w3.heap.size;have hB6:Below w3.heap.size w3 w6:=by rw[hw6];exact(gJ _ _).alloc (gI _) _
    have HB6:=qe (gm Z4.out hB6);have HE:=qe (show kF o0 (.pointer zp) w (.returned (.tuple #[(.pointer zp),.int .i64 0])) w6 from by
     rw[HOO.out];exact⟨HB6.out,rfl⟩)
    have HW6:=qe hw6;have HTB:=qe htb;clear hw6 htb hB6;go_upto_region 5 with fail;rw[<- HW6.out,<- HTB.out];go_wp2_with fail;refine(as_nil7 _ w6).mono ?_;rintro e w7 ⟨rfl,hE7⟩;obtain rfl:=hE7.symm;go_wp2_with fail;go_ret2;exact HE.out
  | make ap l=>
    have HOO:=qe HO1.out;obtain⟨-,hp⟩:=hp;rcases hp with⟨hne,top,z,L,hs,hv,hzf⟩|⟨k,c,hne,hc,hv⟩
    ·obtain⟨rfl,rfl⟩:=Jg hv;have HNE:=qe hne;have HS:=qe hs;have HZF:=qe hzf;clear hv hne hs hzf;obtain⟨w6,hw6⟩:=yM (w3.alloc (.cells #[.int .i64 0] 105));obtain⟨tb,htb⟩:=yM w3.heap.size;have hB6:Below w3.heap.size w3 w6:=by rw[hw6];exact(gJ _ _).alloc (gI _) _
     have HB6:=qe (gm Z4.out hB6);have HE:=qe (show kF o0 (.pointer zp) w (.returned (.tuple #[(qX z),.int .i64 0])) w6 from by
      rw[HOO.out];exact⟨HB6.out,.inl ⟨HNE.out,_,z,L,HS.out,rfl,HZF.out.kept hB6⟩⟩)
     have HW6:=qe hw6;have HTB:=qe htb;clear hw6 htb hB6;go_upto_region 5 with fail;rw[<- HW6.out,<- HTB.out];go_wp2_with fail;refine(as_nil7 _ w6).mono ?_;rintro e w7 ⟨rfl,hE7⟩;obtain rfl:=hE7.symm;go_wp2_with fail;go_ret2;exact HE.out
    ·obtain⟨rfl,rfl⟩:=Jg hv;have HNE:=qe hne;have HC:=qe hc;clear hv hne hc;obtain⟨w6,hw6⟩:=yM (w3.alloc (.cells #[.int .i64 0] 105));obtain⟨tb,htb⟩:=yM w3.heap.size;have hB6:Below w3.heap.size w3 w6:=by rw[hw6];exact(gJ _ _).alloc (gI _) _
     have hn6:w6.heap[tb]? =some (.cells #[.int .i64 0] 105 (0,0)):=by rw[hw6,htb];exact qz rfl
     have HB6:=qe (gm Z4.out hB6);have HAS:=qe (as_hit7 c ⟨tb,0,none⟩ (.int .i64 0) w6 (HET.out.below HB6.out) (by rw[qg hn6];rfl) (qB hn6 0));have HW6:=qe hw6;have HTB:=qe htb;have HN6:=qe hn6;have HBL:=qe Z4.out.size;clear hw6 htb hB6 hn6;go_upto_region 5 with fail;rw[<- HW6.out,<- HTB.out];go_wp2_with fail;refine HAS.out.mono ?_;rintro e w7 ⟨rfl,w8,hB8,rfl⟩;have h8:=(hB8.block tb (zm HN6.out)).trans HN6.out;have c8:(w8.setCell ⟨tb,0,none⟩ (.int .i64 c)).cell? ⟨tb,0,none⟩=some (.int .i64 c):=by rw[qg (qC h8 0 _)];rfl
     have HB9:=qe (((HB6.out).trans (hB8.mono HB6.out.size)).setCell (p:=⟨tb,0,none⟩) (by show w.heap.size<=tb;rw[HTB.out];exact HBL.out) (.int .i64 c));obtain⟨w9,hw9⟩:=yM (w8.setCell ⟨tb,0,none⟩ (.int .i64 c));rw[<- hw9]at c8 HB9 ⊢
     have HE:=qe (show ∀X,Below w9.heap.size w9 X->kF o0 (.pointer zp) w (.returned (.tuple #[.pointer none,.int .i64 c])) X from λX hX=>by
      rw[HOO.out];exact⟨HB9.out.trans (hX.mono HB9.out.size),.inr ⟨k,c,HNE.out,HC.out,rfl⟩⟩)
     clear hw9 h8 hB8;go_upto_region 6 with fail
     go_region
     all_goals (go_wp2_with fail;go_ret2;first | exact HE.out _ (gJ _ _).drew | exact HE.out _ (gJ _ _))
open Go.WideMaps
def Safe (lo hi:Nat)(w:World)(z y:Nat)(Z:tr.Zn):Prop:=∀W':World,w.heap.size<=W'.heap.size->(∀b,lo<=b->b<hi->W'.heap[b]? =w.heap[b]?)->(jB W' W'.heap.size z Z.ap Z.l)/\uQ W' y Z.ap Z.l
theorem Safe.next {lo hi:Nat}{w w':World}{z y:Nat}{Z:tr.Zn}(h:Safe lo hi w z y Z)(hs:w.heap.size<=w'.heap.size)(hk:∀b,lo<=b->b<hi->w'.heap[b]? =w.heap[b]?):Safe lo hi w' z y Z:=
 λW' h1 h2=>h W' (gQ hs h1) λb h3 h4=>(h2 b h3 h4).trans (hk b h3 h4)
theorem Safe.now {lo hi:Nat}{w:World}{z y:Nat}{Z:tr.Zn}(h:Safe lo hi w z y Z):jB w w.heap.size z Z.ap Z.l/\uQ w y Z.ap Z.l:=h w (gI _) λ_ _ _=>rfl
def Vk (qf:ByteArray)(l:List Rec)(w:World)(e:Ending)(w':World):Prop:=Below w.heap.size w w'/\
 ((zn.yG qf l≠none/\e= .returned (.tuple #[.pointer none,.pointer none,.bool true]))\/
   (zn.yG qf l=none/\∃z y L,zL l L/\zn.Valid qf L/\e= .returned (.tuple #[qX z,qX y,.bool true])/\Safe w.heap.size w'.heap.size w' z y ⟨qf,L⟩))
theorem both7_any (qf:ByteArray)(hap:qf.size<=1099511627776)(l:List Rec)(hok:∀r∈l,(Lit.int .i64 r.typ).wf=true)(hsz:∀r∈l,r.owner.size<=1099511627776)(v:Value)(hf:yn v)(w:World)(hrv:ql w v l):
 Calls Tryz.prog 16 #[.agg #[.string qf,v]] w λe w'=>Vk qf l w e w':=by
 obtain⟨a,cap,rfl,-⟩:=id hrv;obtain⟨w1,hw1⟩:=yM (w.alloc (.cells #[.string qf,.slice a l.length cap] 42));obtain⟨b1,hb1⟩:=yM w.heap.size;have hB1:Below w.heap.size w w1:=by rw[hw1];exact(gJ _ _).alloc (gI _) _
 have hn1:w1.heap[b1]? =some (.cells #[.string qf,.slice a l.length cap] 42 (0,0)):=by rw[hw1,hb1];exact qz rfl
 have zk:=qe (show ∀X,Below w1.heap.size w1 X->X.cell? ⟨b1,0,none⟩=some (.string qf)/\X.cell? ⟨b1,1,none⟩=some (.slice a l.length cap) from λX hX=>by
  have h1:=(hX.block b1 (qA hn1)).trans hn1;exact⟨by rw[qg h1];rfl,by rw[qg h1];rfl⟩)
 have HNW:=qe (new_anyB qf l hok _ hf w1 (hrv.below hB1));have HMK:=qe (show ∀X,Below w1.heap.size w1 X->Calls Tryz.prog 46 #[.string qf,.slice a l.length cap] X λe w'=>xZ qf l X e w' from λX hX=>rmake_anyB qf hap l hsz _ X (hrv.below (gm hB1 hX)));have HW1:=qe hw1;have HB1:=qe hB1;have HBB:=qe hb1;clear hw1 hB1 hb1 hn1 hrv hf hok hsz hap;obtain⟨x0,x1⟩:=zk.out w1 (gJ _ _)
 go_enter Tryz.func16,Tryz.ntmps16
 go_upto_region 1 with fail;rw[<- HW1.out,<- HBB.out];go_wp2_with fail;refine HNW.out.mono ?_;intro e w2 hp;clear x0 x1;rcases hne:zn.yG qf l with _ | ⟨k0,c0⟩
 ·unfold kV at hp;rw[hne]at hp;obtain⟨hB2,z,L,-,hs,rfl,hzi⟩:=hp;have hva0:=zn.Z9 hne;have hva:zn.Valid qf L:=zn.Z9 (zn.newE_of hs.1.symm hne);have HB2:=qe hB2;have HZI:=qe hzi;have HVA:=qe hva;have HVA0:=qe hva0;have HS:=qe hs;have HNE:=qe hne;clear hB2 hzi hva hva0 hs hne;obtain⟨x0,x1⟩:=zk.out w2 HB2.out;go_wp2_with fail;refine(HMK.out w2 HB2.out).mono ?_;rintro e w3 ⟨hB3,hm⟩;rw[HNE.out]at hm;obtain⟨y,L',hs',rfl,hy⟩:=hm;obtain rfl:L'=L:=hs'.eq HS.out HVA0.out.named (zn.uniq_of (zn.Qv (zn.ZC HVA0.out.rules)));have HF:=qe (show Vk qf l w (.returned (.tuple #[qX z,qX y,.bool true])) w3 from by
   have hs1:=HB1.out.size;have hs2:=HB2.out.size;refine⟨HB1.out.trans ((HB2.out.mono hs1).trans (hB3.mono (by omega))),.inr ⟨HNE.out,z,y,L',HS.out,HVA.out,rfl,λW' h1 h2=>⟨⟨QL.new (HZI.out.keep λb h3 h4=>(h2 b (by omega) (gN h4 hB3.size)).trans (hB3.block b h4)),HVA.out.small,HVA.out.named,HS.out.2⟩,hy.keep h1 λb h3 h4=>h2 b (by omega) h4⟩⟩⟩)
  clear hB3 hs' hy x0 x1;go_wp2_with fail
  go_ret3
  exact HF.out
 ·unfold kV at hp;rw[hne]at hp;obtain⟨hB2,rfl⟩:=hp;have hc0:=zn.K8 hne;have HB2:=qe hB2;have HNE:=qe hne;clear hB2 hne;obtain⟨x0,x1⟩:=zk.out w2 HB2.out;go_wp2_with fail;refine(HMK.out w2 HB2.out).mono ?_;rintro e w3 ⟨hB3,hm⟩;rw[HNE.out]at hm;obtain rfl:=hm;have HF:=qe (show Vk qf l w (.returned (.tuple #[.pointer none,.pointer none,.bool true])) w3 from by
   have hs1:=HB1.out.size;have hs2:=HB2.out.size;exact⟨HB1.out.trans ((HB2.out.mono hs1).trans (hB3.mono (by omega))),.inl ⟨by rw[HNE.out];simp,rfl⟩⟩)
  have d0:(c0 != 0)=true:=by rw[bne_iff_ne];exact hc0
  clear hB3 x0 x1;go_wp2_with fail
  go_ret3
  exact HF.out
end Go.Proofs.YtpcmilhjpmlbpaaGreatDoor
namespace Go.Proofs.YtpcmilhjpmlbpaaGreatDoor
open Go.RowKit Go.Shelf nm od
theorem askz_end {w X:World}{bm gq gr:Nat}{c id:Int}{name:ByteArray}{t:Int}{r:Rec}(hc:c=0)(hB:Below w.heap.size w X)(hm:qi X bm hd0 qE qE qE qE)(hbm:w.heap.size<=bm)(hq:XL X gq 0 ⟨name,t,1⟩)(hql:gq<X.heap.size)(hr:Zk X gr 0 r)(hrl:gr<X.heap.size)(n1:bm<gq)(n2:bm<gr):
 ∃W,(qi W bm (hdI id) (.slice (some ⟨gq,0,none⟩) 1 1) qE (.slice (some ⟨gr,0,none⟩) 1 1) qE/\yQ c name t id [r] w (.returned (.tuple #[yu (hdI id) (.slice (some ⟨gq,0,none⟩) 1 1) qE (.slice (some ⟨gr,0,none⟩) 1 1) qE,.int .i64 0])) W)/\
  W=((((((((((((((X.setCell ⟨bm,0,none⟩ (.int .i64 id)).setCell ⟨bm,1,none⟩ (.bool false)).setCell ⟨bm,2,none⟩ (.int .i64 0)).setCell ⟨bm,3,none⟩ (.bool false)).setCell ⟨bm,4,none⟩ (.bool false)).setCell ⟨bm,5,none⟩ (.bool false)).setCell ⟨bm,6,none⟩ (.bool false)).setCell ⟨bm,7,none⟩ (.bool false)).setCell ⟨bm,8,none⟩ (.bool false)).setCell ⟨bm,9,none⟩ (.int .i64 0)).setCell ⟨bm,10,none⟩ (.slice (some ⟨gq,0,none⟩) 1 1)).setCell ⟨bm,11,none⟩ qE).setCell ⟨bm,12,none⟩ (.slice (some ⟨gr,0,none⟩) 1 1)).setCell ⟨bm,13,none⟩ qE):=by
 have hst:=yg hm (hdI id) (.slice (some ⟨gq,0,none⟩) 1 1) qE (.slice (some ⟨gr,0,none⟩) 1 1) qE;refine⟨_,⟨hst.1,.inr ⟨hc,_,_,rfl,hB.grown hst.2 hB.size (λj hj=>by simp only[gM]at hj;omega),?_,?_,.inr ⟨_,_,_,_,rfl⟩⟩⟩,rfl⟩
 ·exact qns_one7 (hq.keep (hst.2.block gq hql (by simp only[ne_eq,gM];omega))) (gN hql hst.2.size)
 ·exact recs_one7 (hr.keep (hst.2.block gr hrl (by simp only[ne_eq,gM];omega))) (gN hrl hst.2.size)
theorem rask_zone (y:Nat)(Z:tr.Zn)(hv:tr.Ok Z)(hap:Z.ap.size<=1099511627776)(qf:ByteArray)(id:Int)(w:World)(hy:uQ w y Z.ap Z.l):
 Calls Tryz.prog 18 #[qX y,.string qf,.int .i64 id] w λe w'=>yQ (tr.idI id) Z.ap 251 id [tr.qZ Z] w e w':=by
 obtain⟨w1,hw1⟩:=yM (w.alloc (.cells (yT hd0 qE qE qE qE).toArray 33));obtain⟨hB1,hs1,hm1⟩:=zG hw1;obtain⟨bm,hbm⟩:=yM w.heap.size;rw[<- hbm]at hm1;have HM:=qe hm1;have HW1:=qe hw1;have HBM:=qe hbm;have HB1:=qe hB1;have HBML:=qe (show bm<w1.heap.size by omega);clear hw1 hB1 hs1 hm1 hbm;obtain⟨r,hr⟩:=yM (tr.qZ Z);rw[<- hr];have HSO:=qe (show ∀X,Below w1.heap.size w1 X->Calls Tryz.prog 50 #[qX y] X λe w'=>e= .returned (yf r)/\Below X.heap.size X w' from λX hX=>by rw[hr];exact rsoa_any y Z hv hap X (hy.below (gm HB1.out hX)));obtain⟨gz,capz,hzc,-⟩:=hy.below HB1.out;have zc:w1.cell? ⟨y,0,none⟩=some (.string Z.ap):=by rw[qg hzc];rfl
 have HZL:=qe (qA hzc);have HZC:=qe zc;clear hv hap hy hr hzc zc
 go_enter Tryz.func18,Tryz.ntmps18
 go_upto_region 1 with fail;rw[<- HW1.out,<- HBM.out];have HRF:=qe (gJ w1.heap.size w1);by_cases h1:id<0
 ·have HK:=qe (show tr.idI id=23 by unfold tr.idI;rw[if_pos (.inl h1)]);have d1:decide (id<0)=true:=gF h1;have hmW:=HM.out.below HRF.out;obtain⟨y0,y1,y2,y3,y4,y5,y6,y7,y8,y9,y10,y11,y12,y13⟩:=qi.facts hmW;have f0:=qi.free hmW 0;have f1:=qi.free hmW 1;have f2:=qi.free hmW 2;have f3:=qi.free hmW 3;have f4:=qi.free hmW 4;have f5:=qi.free hmW 5;have f6:=qi.free hmW 6;have f7:=qi.free hmW 7;have f8:=qi.free hmW 8;have f9:=qi.free hmW 9;have f10:=qi.free hmW 10;have f11:=qi.free hmW 11;have f12:=qi.free hmW 12;have f13:=qi.free hmW 13;have hst:=yg hmW hd0 qE qE qE qE;have HST:=qe hst.1;have yX:=qe (show yQ (tr.idI id) Z.ap 251 id [r] w (.returned (.tuple #[yu hd0 qE qE qE qE,.int .i64 23])) _ from .inl ⟨by rw[HK.out];decide,by rw[HK.out],(gm HB1.out HRF.out).grown hst.2 (gm HB1.out HRF.out).size (λj hj=>by simp only[gM]at hj;rw[<- hj,HBM.out];exact gI _)⟩);clear hmW hst;go_wp2_with fail;exact jr (y:=.int .i64 23) rfl rfl rfl rfl HST.out yX.out
 ·have d1:decide (id<0)=false:=gp h1;by_cases h2:65535<id
  ·have HK:=qe (show tr.idI id=23 by unfold tr.idI;rw[if_pos (.inr h2)]);have d2:decide (65535<id)=true:=gF h2;have hmW:=HM.out.below HRF.out;obtain⟨y0,y1,y2,y3,y4,y5,y6,y7,y8,y9,y10,y11,y12,y13⟩:=qi.facts hmW;have f0:=qi.free hmW 0;have f1:=qi.free hmW 1;have f2:=qi.free hmW 2;have f3:=qi.free hmW 3;have f4:=qi.free hmW 4;have f5:=qi.free hmW 5;have f6:=qi.free hmW 6;have f7:=qi.free hmW 7;have f8:=qi.free hmW 8;have f9:=qi.free hmW 9;have f10:=qi.free hmW 10;have f11:=qi.free hmW 11;have f12:=qi.free hmW 12;have f13:=qi.free hmW 13;have hst:=yg hmW hd0 qE qE qE qE;have HST:=qe hst.1;have yX:=qe (show yQ (tr.idI id) Z.ap 251 id [r] w (.returned (.tuple #[yu hd0 qE qE qE qE,.int .i64 23])) _ from .inl ⟨by rw[HK.out];decide,by rw[HK.out],(gm HB1.out HRF.out).grown hst.2 (gm HB1.out HRF.out).size (λj hj=>by simp only[gM]at hj;rw[<- hj,HBM.out];exact gI _)⟩);clear hmW hst;go_wp2_with fail;exact jr (y:=.int .i64 23) rfl rfl rfl rfl HST.out yX.out
  ·have HK:=qe (show tr.idI id=0 by unfold tr.idI;rw[if_neg (by omega)]);have d2:decide (65535<id)=false:=gp h2;clear h1 h2;go_upto_region 7 with fail;clear d1 d2;have zc:=HZC.out;have zl:=HZL.out
   go_region_with (first
    | (go_at_call 50;(with_reducible refine(HSO.out _ (by first | exact(gJ _ _).drew | exact((gJ _ _).alloc (gI _) _).drew)).mono ?_);rintro e wA ⟨rfl,hbA⟩;have uY:=Below.trans (B:=w1.heap.size) (a:=w1) (by first | exact(gJ _ _).drew | exact((gJ _ _).alloc (gI _) _).drew) (hbA.mono (by simp));have hmA:=HM.out.below uY;have zcA:wA.cell? ⟨y,0,none⟩=some (.string Z.ap):=(uY.cell (p:=⟨y,0,none⟩) HZL.out).trans HZC.out;have zcR:(wA.alloc (.cells #[.string r.owner,.int .i64 r.typ,.int .i64 r.cls,.int .i64 r.ttl,.string r.data] 80)).cell? ⟨y,0,none⟩=some (.string Z.ap):=((gJ wA.heap.size wA).alloc (gI _) _ |>.cell (p:=⟨y,0,none⟩) (gN HZL.out uY.size)).trans zcA;have hmR:qi (wA.alloc (.cells #[.string r.owner,.int .i64 r.typ,.int .i64 r.cls,.int .i64 r.ttl,.string r.data] 80)) bm hd0 qE qE qE qE:=hmA.below ((gJ _ _).alloc (gI _) _);have hmQ:qi (wA.alloc (.cells #[.string Z.ap,.int .i64 251,.int .i64 1] 78)) bm hd0 qE qE qE qE:=hmA.below ((gJ _ _).alloc (gI _) _);have Kn:qi ((wA.alloc (.cells #[.string r.owner,.int .i64 r.typ,.int .i64 r.cls,.int .i64 r.ttl,.string r.data] 80)).alloc (.cells #[.string Z.ap,.int .i64 251,.int .i64 1] 78)) bm hd0 qE qE qE qE:=hmR.below ((gJ _ _).alloc (gI _) _);have Ko:qi ((wA.alloc (.cells #[.string Z.ap,.int .i64 251,.int .i64 1] 78)).alloc (.cells #[.string r.owner,.int .i64 r.typ,.int .i64 r.cls,.int .i64 r.ttl,.string r.data] 80)) bm hd0 qE qE qE qE:=hmQ.below ((gJ _ _).alloc (gI _) _);obtain⟨ya0,ya1,ya2,ya3,ya4,ya5,ya6,ya7,ya8,ya9,ya10,ya11,ya12,ya13⟩:=qi.facts hmR;have fa0:=qi.free hmR 0;have fa1:=qi.free hmR 1;have fa2:=qi.free hmR 2;have fa3:=qi.free hmR 3;have fa4:=qi.free hmR 4;have fa5:=qi.free hmR 5;have fa6:=qi.free hmR 6;have fa7:=qi.free hmR 7;have fa8:=qi.free hmR 8;have fa9:=qi.free hmR 9;have fa10:=qi.free hmR 10;have fa11:=qi.free hmR 11;have fa12:=qi.free hmR 12;have fa13:=qi.free hmR 13;obtain⟨yb0,yb1,yb2,yb3,yb4,yb5,yb6,yb7,yb8,yb9,yb10,yb11,yb12,yb13⟩:=qi.facts Kn;have fb0:=qi.free Kn 0;have fb1:=qi.free Kn 1;have fb2:=qi.free Kn 2;have fb3:=qi.free Kn 3;have fb4:=qi.free Kn 4;have fb5:=qi.free Kn 5;have fb6:=qi.free Kn 6;have fb7:=qi.free Kn 7;have fb8:=qi.free Kn 8;have fb9:=qi.free Kn 9;have fb10:=qi.free Kn 10;have fb11:=qi.free Kn 11;have fb12:=qi.free Kn 12;have fb13:=qi.free Kn 13;obtain⟨yc0,yc1,yc2,yc3,yc4,yc5,yc6,yc7,yc8,yc9,yc10,yc11,yc12,yc13⟩:=qi.facts Ko;have fc0:=qi.free Ko 0;have fc1:=qi.free Ko 1;have fc2:=qi.free Ko 2;have fc3:=qi.free Ko 3;have fc4:=qi.free Ko 4;have fc5:=qi.free Ko 5;have fc6:=qi.free Ko 6;have fc7:=qi.free Ko 7;have fc8:=qi.free Ko 8;have fc9:=qi.free Ko 9;have fc10:=qi.free Ko 10;have fc11:=qi.free Ko 11;have fc12:=qi.free Ko 12;have fc13:=qi.free Ko 13))
   all_goals
    clear ya0 fa0 ya1 fa1 ya2 fa2 ya3 fa3 ya4 fa4 ya5 fa5 ya6 fa6 ya7 fa7 ya8 fa8 ya9 fa9 ya10 fa10 ya11 fa11 ya12 fa12 ya13 fa13 yb0 fb0 yb1 fb1 yb2 fb2 yb3 fb3 yb4 fb4 yb5 fb5 yb6 fb6 yb7 fb7 yb8 fb8 yb9 fb9 yb10 fb10 yb11 fb11 yb12 fb12 yb13 fb13 yc0 fc0 yc1 fc1 yc2 fc2 yc3 fc3 yc4 fc4 yc5 fc5 yc6 fc6 yc7 fc7 yc8 fc8 yc9 fc9 yc10 fc10 yc11 fc11 yc12 fc12 yc13 fc13 zcA zcR;have hbml:=HBML.out;have hs2:=uY.size;have hbw:w.heap.size<=bm:=Nat.le_of_eq HBM.out.symm;have hBA:=gm HB1.out uY;have hQQ:=YS wA (wA.alloc (.cells #[.string Z.ap,.int .i64 251,.int .i64 1] 78)) ⟨Z.ap,251,1⟩ rfl;have hRR:=zf wA (wA.alloc (.cells #[.string r.owner,.int .i64 r.typ,.int .i64 r.cls,.int .i64 r.ttl,.string r.data] 80)) r rfl;go_wp2_with fail
    first
     | (have hk:Below ((w1.alloc (.cells #[.string Z.ap,.int .i64 251,.int .i64 1] 78)).drew).heap.size ((w1.alloc (.cells #[.string Z.ap,.int .i64 251,.int .i64 1] 78)).drew) wA:=by with_reducible exact hbA
        have hq1:=YS w1 (w1.alloc (.cells #[.string Z.ap,.int .i64 251,.int .i64 1] 78)) ⟨Z.ap,251,1⟩ rfl;have hqA:XL wA w1.heap.size 0 ⟨Z.ap,251,1⟩:=(hq1.2.2.keep rfl).keep (hbA.block w1.heap.size (by show w1.heap.size<(w1.alloc _).heap.size;simp));have hlt:w1.heap.size<wA.heap.size:=gN (by show w1.heap.size<(w1.alloc (.cells #[.string Z.ap,.int .i64 251,.int .i64 1] 78)).heap.size;simp) hbA.size;obtain⟨W,⟨e1,e2⟩,eW⟩:=askz_end (id:=id) HK.out (hBA.trans (hRR.1.mono hBA.size)) hmR hbw (hqA.keep (hRR.1.block w1.heap.size hlt)) (by simp;omega) hRR.2.2 (by simp) hbml (by omega);rw[<- eW];exact jr (y:=.int .i64 0) rfl rfl rfl rfl e1 e2)
     | (have hR2:=zf (wA.alloc (.cells #[.string Z.ap,.int .i64 251,.int .i64 1] 78)) ((wA.alloc (.cells #[.string Z.ap,.int .i64 251,.int .i64 1] 78)).alloc (.cells #[.string r.owner,.int .i64 r.typ,.int .i64 r.cls,.int .i64 r.ttl,.string r.data] 80)) r rfl
        obtain⟨W,⟨e1,e2⟩,eW⟩:=askz_end (id:=id) (gq:=wA.heap.size) (gr:=wA.heap.size+1) HK.out ((hBA.trans (hQQ.1.mono hBA.size)).trans (hR2.1.mono (hBA.trans (hQQ.1.mono hBA.size)).size)) Ko hbw (hQQ.2.2.keep (hR2.1.block wA.heap.size (by simp))) (by simp;omega) (by have h:=hR2.2.2;rwa [World.size_alloc]at h) (by simp) (by omega) (by omega);rw[<- eW];exact jr (y:=.int .i64 0) rfl rfl rfl rfl e1 e2)
     | (have hQ2:=YS (wA.alloc (.cells #[.string r.owner,.int .i64 r.typ,.int .i64 r.cls,.int .i64 r.ttl,.string r.data] 80)) ((wA.alloc (.cells #[.string r.owner,.int .i64 r.typ,.int .i64 r.cls,.int .i64 r.ttl,.string r.data] 80)).alloc (.cells #[.string Z.ap,.int .i64 251,.int .i64 1] 78)) ⟨Z.ap,251,1⟩ rfl
        obtain⟨W,⟨e1,e2⟩,eW⟩:=askz_end (id:=id) (gq:=wA.heap.size+1) (gr:=wA.heap.size) HK.out ((hBA.trans (hRR.1.mono hBA.size)).trans (hQ2.1.mono (hBA.trans (hRR.1.mono hBA.size)).size)) Kn hbw (by have h:=hQ2.2.2;rwa [World.size_alloc]at h) (by simp) (hRR.2.2.keep (hQ2.1.block wA.heap.size (by simp))) (by simp;omega) (by omega) (by omega);rw[<- eW];exact jr (y:=.int .i64 0) rfl rfl rfl rfl e1 e2)
def Took (w:World)(v:Value)(R:Option tr.Zn):Prop:=(R=none/\v= .pointer none)\/∃A z,R=some A/\v=qX z/\jB w w.heap.size z A.ap A.l
def RTook (w:World)(v:Value)(R:Option tr.Zn):Prop:=(R=none/\v= .pointer none)\/∃A y,R=some A/\v=qX y/\uQ w y A.ap A.l
section
variable {o:tr.Out}{zp yp p p':Option Addr}{c c':Int}{w w' w1 w2 w3:World}{e:Ending}{Z R:Option tr.Zn}{v:Value}
theorem Took.below (h:Took w v R)(hB:Below w.heap.size w w'):Took w' v R:=by
 rcases h with h | ⟨A,z,h1,h2,h3⟩
 ·exact .inl h
 ·exact .inr ⟨A,z,h1,h2,(h3.kept hB).top⟩
theorem RTook.below (h:RTook w v R)(hB:Below w.heap.size w w'):RTook w' v R:=by
 rcases h with h | ⟨A,z,h1,h2,h3⟩
 ·exact .inl h
 ·exact .inr ⟨A,z,h1,h2,h3.below hB⟩
theorem kF.two (h:kF o (.pointer zp) w e w'):Below w.heap.size w w'/\∃p c,e= .returned (.tuple #[.pointer p,.int .i64 c])/\kF o (.pointer zp) w (.returned (.tuple #[.pointer p,.int .i64 c])) w':=by
 obtain⟨hB,h⟩:=h
 cases o with
 | err c=>
   obtain⟨h1,rfl⟩:=h;exact⟨hB,_,_,rfl,hB,h1,rfl⟩
 | same=>
   obtain rfl:e=_:=h;exact⟨hB,_,_,rfl,hB,rfl⟩
 | make ap l=>
   rcases h with⟨h1,top,z,L,hs,rfl,hz⟩|⟨k,c,h1,h2,rfl⟩
   ·exact⟨hB,_,_,rfl,hB,.inl ⟨h1,top,z,L,hs,rfl,hz⟩⟩
   ·exact⟨hB,_,_,rfl,hB,.inr ⟨k,c,h1,h2,rfl⟩⟩
theorem qU.duo (h:qU o (.pointer zp) w e w'):Below w.heap.size w w'/\∃p c,e= .returned (.tuple #[.pointer p,.int .i64 c])/\qU o (.pointer zp) w (.returned (.tuple #[.pointer p,.int .i64 c])) w':=by
 cases o with
 | err c=>
   obtain⟨h1,hB,rfl⟩:=h;exact⟨hB,_,_,rfl,h1,hB,rfl⟩
 | same=>
   obtain⟨hB,rfl⟩:=h;exact⟨hB,_,_,rfl,hB,rfl⟩
 | make ap l=>
   obtain⟨hB,h⟩:=h;rcases h with⟨h1,y,L,hs,rfl,hz⟩|⟨k,c,h1,h2,rfl⟩
   ·exact⟨hB,_,_,rfl,hB,.inl ⟨h1,y,L,hs,rfl,hz⟩⟩
   ·exact⟨hB,_,_,rfl,hB,.inr ⟨k,c,h1,h2,rfl⟩⟩
theorem Jo (h:Ending.returned (.tuple #[.pointer p,.int .i64 c])= .returned (.tuple #[.pointer p',.int .i64 c'])):p=p'/\c=c':=by
 obtain⟨h1,h2⟩:=Jg h;simp only[Value.pointer.injEq,Value.int.injEq,true_and]at h1 h2;exact⟨h1,h2⟩
theorem took (hz:VV w (.pointer zp) Z)(hy:Vb w2 (.pointer yp) Z)(h:kF o (.pointer zp) w (.returned (.tuple #[.pointer p,.int .i64 c])) w1)
 (h':qU o (.pointer yp) w2 (.returned (.tuple #[.pointer p',.int .i64 c'])) w3):c'=c/\∃R,Took w1 (.pointer p) R/\RTook w3 (.pointer p') R:=by
 obtain⟨hB,h⟩:=h
 cases o with
 | err k=>
   obtain⟨rfl,rfl⟩:=Jo h.2;obtain⟨rfl,rfl⟩:=Jo h'.2.2;exact⟨rfl,none,.inl ⟨rfl,rfl⟩,.inl ⟨rfl,rfl⟩⟩
 | same=>
   obtain⟨rfl,rfl⟩:=Jo h;obtain⟨hB',h'⟩:=h';obtain⟨rfl,rfl⟩:=Jo h';refine⟨rfl,Z,?_,?_⟩
   ·rcases hz with h1 | ⟨A,z,h1,h2,-,h4⟩
    ·exact .inl h1
    ·exact .inr ⟨A,z,h1,h2,(h4.kept hB).top⟩
   ·rcases hy with h1 | ⟨A,z,h1,h2,-,-,-,h4⟩
    ·exact .inl h1
    ·exact .inr ⟨A,z,h1,h2,h4.below hB'⟩
 | make ap l=>
   obtain⟨hB',h'⟩:=h';rcases h with⟨hn,top,z,L,hs,he,hz⟩|⟨k,d,hn,-,he⟩
   ·rcases h' with⟨-,y,L',hs',he',hz'⟩|⟨k,d,hn',-,he'⟩
    ·obtain⟨rfl,rfl⟩:=Jo he;obtain⟨rfl,rfl⟩:=Jo he';have hv:zn.Valid ap l:=zn.Z9 hn;obtain rfl:L'=L:=hs'.eq hs hv.named (zn.KM hv);exact⟨rfl,some ⟨ap,L'⟩,.inr ⟨_,z,rfl,rfl,hz.top⟩,.inr ⟨_,y,rfl,rfl,hz'⟩⟩
    ·rw[hn]at hn';cases hn'
   ·rcases h' with⟨hn',-⟩|⟨k',d',hn',-,he'⟩
    ·rw[hn]at hn';cases hn'
    ·obtain⟨rfl,rfl⟩:=Jo he;obtain⟨rfl,rfl⟩:=Jo he';rw[hn]at hn';simp only[gM,Prod.mk.injEq]at hn';exact⟨hn'.2.symm,none,.inl ⟨rfl,rfl⟩,.inl ⟨rfl,rfl⟩⟩
def AskU (hd:Hd)(qs:List Qn)(au:List Rec)(c:Int)(w:World)(e:Ending)(w':World):Prop:=∃q a u d,e= .returned (.tuple #[yu hd q a u d,.int .i64 c])/\Below w.heap.size w w'/\yw w' q qs/\ql w' a []/\ql w' u au/\ql w' d []
theorem askU_of {name:ByteArray}{t id:Int}{au:List Rec}(h:yQ c name t id au w e w'):AskU (if c=0 then hdI id else hd0) (if c=0 then [⟨name,t,1⟩] else []) (if c=0 then au else []) c w e w':=by
 rcases h with⟨h1,rfl,hB⟩|⟨h1,g,u,rfl,hB,hq,hu,-⟩
 ·rw[if_neg h1,if_neg h1,if_neg h1];exact⟨_,_,_,_,rfl,hB,⟨none,0,rfl,gI _,λ_ hk=>absurd hk (Nat.not_lt_zero _)⟩,xV _,xV _,xV _⟩
 ·subst h1;rw[if_pos rfl,if_pos rfl,if_pos rfl];exact⟨_,_,_,_,rfl,hB,hq,xV _,hu,xV _⟩
theorem ask_both (Z:Option tr.Zn)(zp yp:Option Addr)(name:ByteArray)(hnm:name.size<=1099511627776)(id:Int):∃hd qs au c,qs.length<=1/\au.length<=1/\
 (∀X,VV X (.pointer zp) Z->Calls Tryz.prog 17 #[.pointer zp,.string name,.int .i64 id] X λe w'=>AskU hd qs au c X e w')/\
 ∀X,Vb X (.pointer yp) Z->Calls Tryz.prog 18 #[.pointer yp,.string name,.int .i64 id] X λe w'=>AskU hd qs au c X e w':=by
 obtain⟨nm,t,au,c,hau,h1,h2⟩:∃nm t au c,au.length<=1/\
  (∀X,VV X (.pointer zp) Z->Calls Tryz.prog 17 #[.pointer zp,.string name,.int .i64 id] X λe w'=>yQ c nm t id au X e w')/\
  ∀X,Vb X (.pointer yp) Z->Calls Tryz.prog 18 #[.pointer yp,.string name,.int .i64 id] X λe w'=>yQ c nm t id au X e w':=by
  cases Z with
  | none=>
    refine⟨name,252,[],tr.uS name id,by simp,λX hz=>?_,λX hy=>?_⟩
    ·rcases hz with⟨-,h⟩|⟨A,z,h,-⟩
     ·rw[h];exact ask_nil name id X
     ·cases h
    ·rcases hy with⟨-,h⟩|⟨A,z,h,-⟩
     ·rw[h];exact rask_nil name hnm id X
     ·cases h
  | some A=>
    refine⟨A.ap,251,[tr.qZ A],tr.idI id,by simp,λX hz=>?_,λX hy=>?_⟩
    ·rcases hz with⟨h,-⟩|⟨B,z,h,h2,h3,h4⟩
     ·cases h
     ·obtain rfl:=Hr h;rw[h2];exact ask_zone X.heap.size z A h3 name id X h4
    ·rcases hy with⟨h,-⟩|⟨B,z,h,h2,h3,h4,-,h6⟩
     ·cases h
     ·obtain rfl:=Hr h;rw[h2];exact rask_zone z A h3 h4 name id X h6
 refine⟨if c=0 then hdI id else hd0,if c=0 then [⟨nm,t,1⟩] else [],if c=0 then au else [],c,?_,?_,λX hz=>(h1 X hz).mono λe w' h=>askU_of h,λX hy=>(h2 X hy).mono λe w' h=>askU_of h⟩
 ·split <;> simp
 ·split
  ·exact hau
  ·simp
end
theorem both_has {qf:ByteArray}{l:List Rec}{w w':World}{e:Ending}(hap:qf.size<=1099511627776)(hsz:∀r∈l,r.owner.size<=1099511627776)(h:Vk qf l w e w'):
 Below w.heap.size w w'/\∃zp yp Z,e= .returned (.tuple #[.pointer zp,.pointer yp,.bool true])/\VV w' (.pointer zp) Z/\Vb w' (.pointer yp) Z:=by
 obtain⟨hB,⟨-,rfl⟩|⟨-,z,y,L,hs,hv,rfl,hsf⟩⟩:=h
 ·exact⟨hB,_,_,none,rfl,.inl ⟨rfl,rfl⟩,.inl ⟨rfl,rfl⟩⟩
 ·obtain⟨h1,h2⟩:=hsf.now;exact⟨hB,_,_,some ⟨qf,L⟩,rfl,.inr ⟨_,z,rfl,rfl,hv,h1⟩,.inr ⟨_,y,rfl,rfl,hv,hap,λr hr=>hsz r (hs.1.mem_iff.1 hr),h2⟩⟩
end Go.Proofs.YtpcmilhjpmlbpaaGreatDoor
