import Derived.Test.YtpcmilhjpmlbpaaGreatDoorQSort
import Derived.Test.YtpcmilhjpmlbpaaGreatDoorQRefA
import Derived.Test.YtpcmilhjpmlbpaaGreatDoorQZoneL
import Derived.Test.YtpcmilhjpmlbpaaGreatDoorQMapF
import Derived.Defers
import Derived.Recover
import Derived.StillTailTactics
set_option maxRecDepth 100000
set_option maxHeartbeats 4000000
namespace Go.Proofs.YtpcmilhjpmlbpaaGreatDoor
open Go.RowKit Go.Shelf nm
def zZ (v:Value):Prop:=v= .slice none 0 0∨∃b off n cap,v= .slice (some ⟨b,off,none⟩) n cap
theorem Y0 {w:World}{base n:Nat}{e:TypeId}{size:Nat}{v:Value}{xs:List Value}(h:w.ownsRow base e size v n xs):zZ v:=by
 rcases h.2 with⟨rfl,_⟩|⟨g,cap,cur,rfl,_⟩
 ·exact .inl rfl
 ·exact .inr ⟨_,_,_,_,rfl⟩
theorem ZK {w:World}{b off cap n:Nat}{l:List Rec}(h:qz w (.slice (some ⟨b,off,none⟩) n cap) l):n=l.length∧∀j u,(qx l)[j]? =some u→w.cell? ⟨b,off+j,none⟩=some u:=by
 obtain⟨a,cap',hv,_,hr⟩:=h
 simp only[Value.slice.injEq]at hv
 obtain⟨rfl,rfl,rfl⟩:=hv
 refine⟨rfl,fun j u hu=>?_⟩
 have hj:j<l.length*5:=by rw[← zK];exact(List.getElem?_eq_some_iff.1 hu).1
 rw[VW l j hj]at hu
 obtain⟨b',off',he,_,c0,c1,c2,c3,c4⟩:=hr (j / 5) (by omega)
 simp only[Option.some.injEq,Addr.mk.injEq,and_true]at he
 obtain⟨rfl,rfl⟩:=he
 have hm:off+j=off+j / 5*5+j % 5:=by omega
 have h5:j % 5<5:=by omega
 rw[hm]
 generalize j % 5=q at *
 match q,h5 with
 | 0,_=>simp only[List.getElem?_cons_zero,Option.some.injEq]at hu;rw[← hu];exact c0
 | 1,_=>simp only[List.getElem?_cons_succ,List.getElem?_cons_zero,Option.some.injEq]at hu;rw[← hu];exact c1
 | 2,_=>simp only[List.getElem?_cons_succ,List.getElem?_cons_zero,Option.some.injEq]at hu;rw[← hu];exact c2
 | 3,_=>simp only[List.getElem?_cons_succ,List.getElem?_cons_zero,Option.some.injEq]at hu;rw[← hu];exact c3
 | 4,_=>simp only[List.getElem?_cons_succ,List.getElem?_cons_zero,Option.some.injEq]at hu;rw[← hu];exact c4
theorem qH {w:World}{base:Nat}{v:Value}{l:List Rec}(h:w.ownsRow base 80 5 v l.length (qx l)):qz w v l:=by
 obtain⟨a,cap,rfl,hc⟩:=qm h
 refine⟨a,cap,rfl,hc,fun k hk=>?_⟩
 rcases h.2 with⟨h0,h1⟩|⟨g,cap',cur,hv,hb,hg,rest⟩
 ·omega
 ·simp only[Value.slice.injEq,true_and]at hv
  obtain⟨rfl,rfl⟩:=hv
  have hcl:∀j u,(qx l)[j]? =some u→w.cell? ⟨g,j,none⟩=some u:=fun j u hu=>by
   have:=h.cells (g:=g) rfl j u hu
   rw[Addr.add_lit,Nat.zero_add]at this
   exact this
  have hat:∀j v,(recC l[k])[j]? =some v→w.cell? ⟨g,k*5+j,none⟩=some v:=fun j v hv=>hcl _ _ (Ua l k hk j v hv)
  refine⟨g,0,rfl,qo hg,?_⟩
  rw[Nat.zero_add]
  exact⟨hat 0 _ rfl,hat 1 _ rfl,hat 2 _ rfl,hat 3 _ rfl,hat 4 _ rfl⟩
theorem jm (l:List Rec)(hl:l.length*56≤140737488355328)(v:Value)(hf:zZ v)(w:World)(hrv:qz w v l):
 Calls Tryz.prog 38 #[v] w fun e w'=>∃v',e= .returned v'∧Below w.heap.size w w'∧w'.ownsRow w.heap.size 80 5 v' l.length (qx l):=by
 rcases hf with rfl | ⟨b,off,n,cap,rfl⟩
 ·obtain⟨a,cap,hv,hc,_⟩:=hrv
  simp only[Value.slice.injEq]at hv
  have hl0:l= []:=List.eq_nil_of_length_eq_zero hv.2.1.symm
  subst hl0
  refine(AnyE.slices_Clone_nil Tryz.cloneR 0 0 w).mono ?_
  rintro e w' ⟨rfl,rfl⟩
  exact⟨_,rfl,Below.refl _ _,World.ownsRow_nil w' _ _ 5⟩
 ·obtain⟨rfl,hcl⟩:=ZK hrv
  obtain⟨i0,hi0,hz0,hz1,hz2⟩:=info_parts uY
  refine(AnyE.slices_Clone Tryz.cloneR i0 _ 5 56 hi0 hz0 hz1 hz2 rfl (by omega) (fun w=>by kernel_rfl) b off l.length cap (qx l) w (zK l) (by unfold maxLen;omega) hl hcl (fun u hu=>?_)).mono ?_
  ·obtain⟨r,_,hr⟩:=List.mem_flatMap.1 hu
   simp only[List.mem_cons,List.not_mem_nil,or_false]at hr
   rcases hr with rfl | rfl | rfl | rfl | rfl <;> rfl
  ·rintro e w' ⟨v',rfl,h1,_,h2⟩
   exact⟨v',rfl,h2,h1⟩
end Go.Proofs.YtpcmilhjpmlbpaaGreatDoor
namespace Go.Proofs.YtpcmilhjpmlbpaaGreatDoor
open Go.RowKit Go.Shelf Go.WideMaps nm
theorem catch_broken (B a4 a5 a6:Nat)(v4 v5 v6:Value)(k c:Int)(w:World)(h4:w.heap[a4]? =some (.cells #[v4] 43 (0,0)))(h5:w.heap[a5]? =some (.cells #[v5] 3 (0,0)))(h6:w.heap[a6]? =some (.cells #[v6] 47 (0,0)))
 (b4:B≤a4) (b5:B≤a5) (b6:B≤a6) (n45:a4≠a5) (n46:a4≠a6) (n56:a5≠a6):
 CallsD Tryz.prog 75 #[.pointer (some ⟨a4,0,none⟩),.pointer (some ⟨a5,0,none⟩),.pointer (some ⟨a6,0,none⟩)] (.panicking [{ v:=uz k c,recovered:=false}]) w fun e u' w'=>
  e= .returned (.tuple #[])∧u'= .panicking [{ v:=uz k c,recovered:=true}]∧Below B w w'∧w'.cell? ⟨a4,0,none⟩=some (.pointer none)∧w'.cell? ⟨a5,0,none⟩=some (.int .i64 k)∧w'.cell? ⟨a6,0,none⟩=some (.int .i64 c):=by
 have c4:w.cell? ⟨a4,0,none⟩=some v4:=by rw[qg h4];rfl
 have c5:w.cell? ⟨a5,0,none⟩=some v5:=by rw[qg h5];rfl
 have c6:w.cell? ⟨a6,0,none⟩=some v6:=by rw[qg h6];rfl
 have f4:w.frozen? ⟨a4,0,none⟩=false:=qD h4 0
 have f5:w.frozen? ⟨a5,0,none⟩=false:=qD h5 0
 have f6:w.frozen? ⟨a6,0,none⟩=false:=qD h6 0
 refine callsD_of_wpS Tryz.func75 rfl fun c₀ cs hu=>?_
 apply wpS_seq
 apply wpS_region
 simp[wpOpsS,go_sem,recoverD,hu,Tryz.ntmps75,Exit.thenS]
 refine wpS_of_wp ?_
 have HU:=Lib.hid hu
 have H4:=Lib.hid h4;have H5:=Lib.hid h5;have H6:=Lib.hid h6
 clear h4 h5 h6 hu
 have hfr:(#[Value.pointer (some { block:=a4,off:=0}),Value.pointer (some { block:=a5,off:=0}),Value.pointer (some { block:=a6,off:=0})] ++ ((Array.replicate 18 undef).setIfInBounds 3 (uz k c)).setIfInBounds 0 (uz k c)) =
  #[.pointer (some ⟨a4,0,none⟩),.pointer (some ⟨a5,0,none⟩),.pointer (some ⟨a6,0,none⟩),uz k c,undef,undef,uz k c,undef,undef,undef,undef,undef,undef,undef,undef,undef,undef,undef,undef,undef,undef]:=by kernel_rfl
 rw[hfr]
 clear hfr
 have hn:∀W:World,(binOp BinOp.neq 20 (uz k c) .nilIface).run Tryz.prog W= .ok (.bool true) W:=fun _=>by kernel_rfl
 have ht:∀W:World,(Instr.typeAssert (uz k c) 20 135 true).run Tryz.prog W= .ok (.tuple #[.agg #[.int .i64 k,.int .i64 c],.bool true]) W:=fun _=>by kernel_rfl
 go_upto_region 5 with fail
 clear hn ht c4 c5 c6 f4 f5 f6
 obtain⟨o,ho⟩:∃o,o=Obj.cells #[.int .i64 k,.int .i64 c] 135:=⟨_,rfl⟩
 have g4:=qP H4.out o
 have g5:=qP H5.out o
 have g6:=qP H6.out o
 have gn:(w.alloc o).heap[w.heap.size]? =some o:=qB rfl
 have l4:=qo H4.out;have l5:=qo H5.out;have l6:=qo H6.out
 have hBa:Below B w (w.alloc o):=(Below.refl _ w).alloc (by omega) _
 rw[← ho]
 obtain⟨W,hW⟩:∃W,W=w.alloc o:=⟨_,rfl⟩
 rw[← hW]at g4 g5 g6 gn hBa ⊢
 rw[ho]at gn
 have c4:W.cell? ⟨a4,0,none⟩=some v4:=by rw[qg g4];rfl
 have c5:W.cell? ⟨a5,0,none⟩=some v5:=by rw[qg g5];rfl
 have c6:W.cell? ⟨a6,0,none⟩=some v6:=by rw[qg g6];rfl
 have e0:W.cell? ⟨w.heap.size,0,none⟩=some (.int .i64 k):=by rw[qg gn];rfl
 have e1:W.cell? ⟨w.heap.size,1,none⟩=some (.int .i64 c):=by rw[qg gn];rfl
 have f4:W.frozen? ⟨a4,0,none⟩=false:=qD g4 0
 have f5:W.frozen? ⟨a5,0,none⟩=false:=qD g5 0
 have f6:W.frozen? ⟨a6,0,none⟩=false:=qD g6 0
 have n1:a4≠w.heap.size:=by omega
 have n2:a5≠w.heap.size:=by omega
 have n3:a6≠w.heap.size:=by omega
 have HBA:=Lib.hid hBa;have G4:=Lib.hid g4;have G5:=Lib.hid g5;have G6:=Lib.hid g6
 clear g4 g5 g6 gn hBa hW ho
 go_region
 have k4:(((W.setCell ⟨a4,0,none⟩ (.pointer none)).setCell ⟨a5,0,none⟩ (.int .i64 k)).setCell ⟨a6,0,none⟩ (.int .i64 c)).drew.cell? ⟨a4,0,none⟩=some (.pointer none):=(qg (qV (qV (qy G4.out 0 (.pointer none)) (a:=⟨a5,0,none⟩) n45 _) (a:=⟨a6,0,none⟩) n46 _) 0).trans rfl
 have k5:(((W.setCell ⟨a4,0,none⟩ (.pointer none)).setCell ⟨a5,0,none⟩ (.int .i64 k)).setCell ⟨a6,0,none⟩ (.int .i64 c)).drew.cell? ⟨a5,0,none⟩=some (.int .i64 k):=(qg (qV (qy (qV G5.out (a:=⟨a4,0,none⟩) (Ne.symm n45) _) 0 (.int .i64 k)) (a:=⟨a6,0,none⟩) n56 _) 0).trans rfl
 have k6:(((W.setCell ⟨a4,0,none⟩ (.pointer none)).setCell ⟨a5,0,none⟩ (.int .i64 k)).setCell ⟨a6,0,none⟩ (.int .i64 c)).drew.cell? ⟨a6,0,none⟩=some (.int .i64 c):=(qg (qy (qV (qV G6.out (a:=⟨a4,0,none⟩) (Ne.symm n46) _) (a:=⟨a5,0,none⟩) (Ne.symm n56) _) 0 (.int .i64 c)) 0).trans rfl
 have kB:Below B w (((W.setCell ⟨a4,0,none⟩ (.pointer none)).setCell ⟨a5,0,none⟩ (.int .i64 k)).setCell ⟨a6,0,none⟩ (.int .i64 c)).drew:=(((HBA.out.setCell b4 _).setCell b5 _).setCell b6 _).drew
 have hm:=HU.out
 refine(show bodyPostS Tryz.prog Tryz.f75 c₀ cs _ Exit.normal _ _ _ from ?_)
 exact⟨rfl,_,rfl,.tuple #[],results_none rfl _ _ _,rfl,rfl,kB,k4,k5,k6⟩
theorem catch_idle (a4 a5 a6:Nat)(w:World):
 CallsD Tryz.prog 75 #[.pointer (some ⟨a4,0,none⟩),.pointer (some ⟨a5,0,none⟩),.pointer (some ⟨a6,0,none⟩)] .returning w fun e u' w'=>e= .returned (.tuple #[])∧u'= .returning∧w'=w:=by
 refine callsD_of_wpS Tryz.func75 rfl fun c₀ cs hu=>?_
 apply wpS_seq
 apply wpS_region
 simp[wpOpsS,go_sem,recoverD,hu,Tryz.ntmps75,Exit.thenS]
 refine wpS_of_wp ?_
 have HU:=Lib.hid hu
 clear hu
 have hfr:(#[Value.pointer (some { block:=a4,off:=0}),Value.pointer (some { block:=a5,off:=0}),Value.pointer (some { block:=a6,off:=0})] ++ ((Array.replicate 18 undef).setIfInBounds 3 Value.nilIface).setIfInBounds 0 Value.nilIface) =
  #[.pointer (some ⟨a4,0,none⟩),.pointer (some ⟨a5,0,none⟩),.pointer (some ⟨a6,0,none⟩),.nilIface,undef,undef,.nilIface,undef,undef,undef,undef,undef,undef,undef,undef,undef,undef,undef,undef,undef,undef]:=by kernel_rfl
 rw[hfr]
 clear hfr
 have hn:∀W:World,(binOp BinOp.neq 20 .nilIface .nilIface).run Tryz.prog W= .ok (.bool false) W:=fun _=>by kernel_rfl
 go_wp2_with fail
 have hm:=HU.out
 refine⟨rfl,.returning,?_,.tuple #[],results_none rfl _ _ _,rfl,rfl,rfl⟩
 rw[← hm]
end Go.Proofs.YtpcmilhjpmlbpaaGreatDoor
namespace Go.Proofs.YtpcmilhjpmlbpaaGreatDoor
open Go.RowKit Go.Shelf Go.WideMaps nm od
namespace zn
def yx (qf:ByteArray)(l:List Rec):Option (Int×Int):=
 if qj qf=false then some (-1,1) else if 2000<l.length then some (-1,20) else match yZ qf l with
  | some e=>some e
  | none=>zB qf l
end zn
theorem Qp (R:Ending→World→Prop)(a:Nat)(tmps:Array Value)(k c:Int)(v4 v5 v6:Value)(w2:World)(h4:w2.heap[a]? =some (.cells #[v4] 43 (0,0)))(h5:w2.heap[a+1]? =some (.cells #[v5] 3 (0,0)))(h6:w2.heap[a+2]? =some (.cells #[v6] 47 (0,0)))
 (t4:tmps[4]?.getD undef= .pointer (some ⟨a,0,none⟩)) (t5:tmps[5]?.getD undef= .pointer (some ⟨a+1,0,none⟩)) (t6:tmps[6]?.getD undef= .pointer (some ⟨a+2,0,none⟩))
 (hR:∀w',Below a w2 w'→R (.returned (.tuple #[.pointer none,.int .i64 k,.int .i64 c])) w'):
 bodyPostD Tryz.prog Tryz.f45 R (Exit.panic [{ v:=uz k c,recovered:=false}]) { tmps:=tmps,defers:=[{ target:=Target.fn (Fn.func 75) #[.pointer (some ⟨a,0,none⟩),.pointer (some ⟨a+1,0,none⟩),.pointer (some ⟨a+2,0,none⟩)],args:=#[]}]} w2:=by
 refine leaves_cons (f:=75) (args:=#[.pointer (some ⟨a,0,none⟩),.pointer (some ⟨a+1,0,none⟩),.pointer (some ⟨a+2,0,none⟩)]) (by simp) (by simp[go_sem]) ?_
 refine(catch_broken a a (a+1) (a+2) v4 v5 v6 k c w2 h4 h5 h6 (Nat.le_refl _) (by omega) (by omega) (by omega) (by omega) (by omega)).mono ?_
 rintro e u' w'' ⟨rfl,rfl,hB,k4,k5,k6⟩
 have hr:=hR w'' hB
 have HR:=Lib.hid hr
 clear hr hR
 simp[Leaves,settle,results,Tryz.results45,go_sem,t4,t5,t6,k4,k5,k6]
 exact HR.out
theorem new_out (R:Ending→World→Prop)(a z:Nat)(tmps:Array Value)(W:World)(c4:W.cell? ⟨a,0,none⟩=some (.pointer (some ⟨z,0,none⟩)))(c5:W.cell? ⟨a+1,0,none⟩=some (.int .i64 0))(c6:W.cell? ⟨a+2,0,none⟩=some (.int .i64 0))
 (t4:tmps[4]?.getD undef= .pointer (some ⟨a,0,none⟩)) (t5:tmps[5]?.getD undef= .pointer (some ⟨a+1,0,none⟩)) (t6:tmps[6]?.getD undef= .pointer (some ⟨a+2,0,none⟩))
 (hR:R (.returned (.tuple #[.pointer (some ⟨z,0,none⟩),.int .i64 0,.int .i64 0])) W):
 bodyPostD Tryz.prog Tryz.f45 R Exit.ret { tmps:=tmps,defers:=[{ target:=Target.fn (Fn.func 75) #[.pointer (some ⟨a,0,none⟩),.pointer (some ⟨a+1,0,none⟩),.pointer (some ⟨a+2,0,none⟩)],args:=#[]}]} W:=by
 have HR:=Lib.hid hR
 clear hR
 refine leaves_cons (f:=75) (args:=#[.pointer (some ⟨a,0,none⟩),.pointer (some ⟨a+1,0,none⟩),.pointer (some ⟨a+2,0,none⟩)]) (by simp) (by simp[go_sem]) ?_
 refine(catch_idle a (a+1) (a+2) W).mono ?_
 rintro e u' w'' ⟨rfl,rfl,rfl⟩
 simp[Leaves,settle,results,Tryz.results45,go_sem,t4,t5,t6,c4,c5,c6]
 exact HR.out
theorem ZP (fn:Fn)(first cap:Array Value)(w:World):(Instr.makeFunc fn first cap).run Tryz.prog w= .ok (.func fn first cap) w:=rfl
theorem Ug (w w1:World)(hw:w1=((w.alloc (.cells #[.pointer none] 43)).alloc (.cells #[.int .i64 0] 3)).alloc (.cells #[.int .i64 0] 47)):
 w1.heap[w.heap.size]? =some (.cells #[.pointer none] 43 (0,0))∧w1.heap[w.heap.size+1]? =some (.cells #[.int .i64 0] 3 (0,0))∧w1.heap[w.heap.size+2]? =some (.cells #[.int .i64 0] 47 (0,0))∧Below w.heap.size w w1:=by
 subst hw
 exact⟨qP (qP (qB rfl) _) _,qP (qB (by simp)) _,qB (by simp),(((Below.refl _ w).alloc (Nat.le_refl _) _).alloc (by simp) _).alloc (by simp;omega) _⟩
theorem new_name (qf:ByteArray)(hap:qj qf=false)(rv:Value)(w:World):
 Calls Tryz.prog 45 #[.string qf,rv] w fun e w'=>e= .returned (.tuple #[.pointer none,.int .i64 (-1),.int .i64 1])∧Below w.heap.size w w':=by
 obtain⟨w1,hw1⟩:∃X,X=((w.alloc (.cells #[.pointer none] 43)).alloc (.cells #[.int .i64 0] 3)).alloc (.cells #[.int .i64 0] 47):=⟨_,rfl⟩
 obtain⟨h4,h5,h6,hB1⟩:=Ug w w1 hw1
 have HAP:=Lib.hid hap;have HW1:=Lib.hid hw1;have H4:=Lib.hid h4;have H5:=Lib.hid h5;have H6:=Lib.hid h6;have HB1:=Lib.hid hB1
 clear hap hw1 h4 h5 h6 hB1
 have hmf:=ZP
 go_enter_defers Tryz.func45,Tryz.ntmps45
 go_wp2_with fail
 rw[← HW1.out]
 refine(zk _ _).mono ?_
 rintro e w2 ⟨rfl,hB2⟩
 rw[HAP.out,Zi]
 go_wp2_with fail
 exact Qp _ w.heap.size _ (-1) 1 (.pointer none) (.int .i64 0) (.int .i64 0) w2 ((hB2.block _ (qo H4.out)).trans H4.out) ((hB2.block _ (qo H5.out)).trans H5.out) ((hB2.block _ (qo H6.out)).trans H6.out) rfl rfl rfl
  (fun w' h=>⟨rfl,(HB1.out.trans (hB2.mono HB1.out.size)).trans h⟩)
end Go.Proofs.YtpcmilhjpmlbpaaGreatDoor
namespace Go.Proofs.YtpcmilhjpmlbpaaGreatDoor
open Go.RowKit Go.Shelf Go.WideMaps nm od
namespace zn
theorem Zv {bad:Nat→Bool}{n:Nat}(h:zh bad n=none):∀j,j<n→bad j=false:=fun j hj=>by
 unfold zh at h
 rw[List.find?_eq_none]at h
 have:=h j (List.mem_range.2 hj)
 simpa using this
theorem xy {qf:ByteArray}{l:List Rec}(h:zB qf l=none):zh (jk l) l.length=none:=by
 unfold zB at h
 split at h
 ·cases h
 ·assumption
theorem uP {l:List Rec}(h:zh (jk l) l.length=none):l.Pairwise (fun a b=>yu a≠yu b):=by
 rw[List.pairwise_iff_getElem]
 intro i j hi hj hij e
 have h1:=Zv h j hj
 unfold jk at h1
 rw[List.getElem?_eq_getElem hj]at h1
 simp only[decide_eq_false_iff_not,Nat.not_lt,Nat.le_zero_eq]at h1
 unfold uy at h1
 have h2:=List.eq_nil_of_length_eq_zero h1
 rw[List.filter_eq_nil_iff]at h2
 have hm:l[i]∈l.take j:=by
  rw[List.mem_take_iff_getElem]
  exact⟨i,by omega,rfl⟩
 have:=h2 _ hm
 simp[e]at this
def Uniq (l:List Rec):Prop:=∀a∈l,∀b∈l,yu a=yu b→a=b
theorem Vw {l:List Rec}(h:l.Pairwise (fun a b=>yu a≠yu b)):Uniq l:=by
 intro a ha b hb e
 obtain⟨i,hi,rfl⟩:=List.getElem_of_mem ha
 obtain⟨j,hj,rfl⟩:=List.getElem_of_mem hb
 rw[List.pairwise_iff_getElem]at h
 rcases Nat.lt_trichotomy i j with h1 | h1 | h1
 ·exact absurd e (h i j hi hj h1)
 ·subst h1;rfl
 ·exact absurd e.symm (h j i hj hi h1)
theorem Uniq.perm {l L:List Rec}(h:Uniq l)(hp:L.Perm l):Uniq L:=fun a ha b hb=>h a (hp.mem_iff.1 ha) b (hp.mem_iff.1 hb)
theorem Uniq.sub {l L:List Rec}(h:Uniq l)(hp:∀a∈L,a∈l):Uniq L:=fun a ha b hb=>h a (hp a ha) b (hp b hb)
def jy (l:List Rec):Prop:=∀r∈l,qj r.owner=true
theorem level_eq {l:List Rec}(hn:jy l)(hu:Uniq l){a b:Rec}(ha:a∈l)(hb:b∈l)(h1:zR a b≤0)(h2:zR b a≤0):a=b:=by
 have h3:=(Zg.le ⟨a,hn a ha⟩ ⟨b,hn b hb⟩).1 h1
 have h0:zR b a=0:=by
  have:0≤zR b a:=h3
  omega
 have h4:=(orderI_zero (hn b hb) (hn a ha)).1 h0
 refine hu a ha b hb ?_
 unfold yu
 rw[h4.1,← h4.2.2,h4.2.1]
end zn
theorem sorted_eq:∀(x y:List Rec),x.Perm y→x.Pairwise (fun a b=>zn.zR a b≤0)→y.Pairwise (fun a b=>zn.zR a b≤0)→zn.jy x→zn.Uniq x→x=y
 | [],y,hp,_,_,_,_=>by simpa using hp.symm.eq_nil
 | a :: x,[],hp,_,_,_,_=>by simpa using hp.eq_nil
 | a :: x,b :: y,hp,hx,hy,hn,he=>by
   rw[List.pairwise_cons]at hx hy
   have hab:a=b:=by
    have h1:b∈a :: x:=hp.symm.mem_iff.1 (by simp)
    have h2:a∈b :: y:=hp.mem_iff.1 (by simp)
    rcases List.mem_cons.1 h1 with h1 | h1
    ·exact h1.symm
    ·rcases List.mem_cons.1 h2 with h2 | h2
     ·exact h2
     ·exact zn.level_eq hn he (by simp) (by simp[h1]) (hx.1 b h1) (hy.1 a h2)
   subst hab
   rw[sorted_eq x y (List.Perm.cons_inv hp) hx.2 hy.2 (fun r hr=>hn r (by simp[hr])) (he.sub fun r hr=>by simp[hr])]
theorem zI.eq {l L L':List Rec}(h:zI l L)(h':zI l L')(hn:zn.jy l)(hu:zn.Uniq l):L=L':=
 sorted_eq L L' (h.1.trans h'.1.symm) h.2 h'.2 (fun r hr=>hn r (h.1.mem_iff.1 hr)) (hu.perm h.1)
theorem zI.rows {l L:List Rec}(h:zI l L)(κ:Key):zI (zn.qE l κ) (zn.qE L κ):=⟨h.1.filter _,h.2.filter _⟩
theorem sets_take {w:World}{base sb:Nat}{dom:List Key}{F:Key→List Rec}(h:zY w base sb dom F){κ:Key}(hκ:Ya κ)(hd:κ∈dom)(hne:F κ≠[]):
 ∃g cap,(Instr.lookup 114 (.map (some sb)) (Ve κ) false).run Tryz.prog w= .ok (.slice (some ⟨g,0,none⟩) (F κ).length cap) w∧
  w.ownsRow base 80 5 (.slice (some ⟨g,0,none⟩) (F κ).length cap) (F κ).length (qx (F κ))∧base≤g∧g<w.heap.size∧g≠sb∧
  ∀w' L',L'.length=(F κ).length→w.grownBy w' (some g)→w'.ownsRow base 80 5 (.slice (some ⟨g,0,none⟩) (F κ).length cap) (F κ).length (qx L')→zY w' base sb dom (fun κ'=>if κ'=κ then L' else F κ'):=by
 obtain⟨val,hM,hR,hD⟩:=h
 have hown:=hR κ hd
 obtain⟨g,cap,hv,hb,hlt⟩:=hown.form (List.length_pos_iff.2 hne)
 have hrun:=Qe keyE Tryz.underlying114 KQ hM hκ
 rw[if_pos hd,hv]at hrun
 have hgs:g≠sb:=fun e=>hM.not_row hown (by rw[hv,e];rfl)
 rw[hv]at hown
 refine⟨g,cap,hrun,hown,hb,hlt,hgs,fun w' L' hl hg hown'=>⟨val,hM.keep fun o ho=>(hg.block sb hM.lt (by simpa using Ne.symm hgs)).trans ho,fun κ' hκ'=>?_,hD⟩⟩
 by_cases he:κ'=κ
 ·subst he
  simp only[if_true]
  rw[hv,hl]
  exact hown'
 ·simp only[if_neg he]
  refine(hR κ' hκ').kept hg (.inr ?_)
  have:=hD κ' hκ' κ hd he
  rw[hv]at this
  exact this
def X7 (w:World)(z:Nat)(qf:ByteArray)(L:List Rec):Prop:=
 ∃(base rg cap sb tb:Nat) (l0:List Rec),l0.Perm L∧jK w z qf (.slice (some ⟨rg,0,none⟩) L.length cap) (.map (some sb)) (.map (some tb))∧
  w.ownsRow 0 80 5 (.slice (some ⟨rg,0,none⟩) L.length cap) L.length (qx L)∧zY w base sb (zn.vK l0) (zn.qE L)∧zW w tb (zn.JP (qG qf).toNat l0)
def xS (w:World)(top z:Nat)(qf:ByteArray)(L:List Rec):Prop:=top≤w.heap.size∧∃w0,w0.heap.size=top∧(∀b,b<top→w.heap[b]? =w0.heap[b]?)∧X7 w0 z qf L
theorem xS.new {w:World}{z:Nat}{qf:ByteArray}{L:List Rec}(h:X7 w z qf L):xS w w.heap.size z qf L:=⟨Nat.le_refl _,w,rfl,fun _ _=>rfl,h⟩
theorem xS.below {w w':World}{top z:Nat}{qf:ByteArray}{L:List Rec}(h:xS w top z qf L)(hb:Below top w w'):xS w' top z qf L:=by
 obtain⟨h1,w0,h2,h3,h4⟩:=h
 exact⟨Nat.le_trans h1 hb.size,w0,h2,fun b hlt=>(hb.block b hlt).trans (h3 b hlt),h4⟩
theorem xS.parts {w:World}{top z:Nat}{qf:ByteArray}{L:List Rec}(h:xS w top z qf L):X7 w z qf L:=by
 obtain⟨h1,w0,h2,h3,base,rg,cap,sb,tb,l0,k1,k2,k3,k4,k5⟩:=h
 subst h2
 refine⟨base,rg,cap,sb,tb,l0,k1,(h3 z (qo k2)).trans k2,qi k3 fun b hb=>h3 b (k3.lt b hb).2,k4.keep fun b _ hlt=>h3 b hlt,k5.keep fun hlt=>h3 tb hlt⟩
def kE (qf:ByteArray)(l:List Rec)(w:World)(e:Ending)(w':World):Prop:=Below w.heap.size w w'∧match zn.yx qf l with
 | some (k,c)=>e= .returned (.tuple #[.pointer none,.int .i64 k,.int .i64 c])
 | none=>∃z L,w.heap.size≤z∧zI l L∧e= .returned (.tuple #[.pointer (some ⟨z,0,none⟩),.int .i64 0,.int .i64 0])∧xS w' w'.heap.size z qf L
end Go.Proofs.YtpcmilhjpmlbpaaGreatDoor
namespace Go.Proofs.YtpcmilhjpmlbpaaGreatDoor
open Go.RowKit Go.Shelf Go.WideMaps nm od
theorem Uh {qf:ByteArray}{l:List Rec}(h1:qj qf=true)(h2:2000<l.length):zn.yx qf l=some (-1,20):=by
 unfold zn.yx;rw[if_neg (by rw[h1];simp),if_pos h2]
theorem Xh {qf:ByteArray}{l:List Rec}{e:Int×Int}(h1:qj qf=true)(h2:¬2000<l.length)(h3:zn.yZ qf l=some e):zn.yx qf l=some e:=by
 unfold zn.yx;rw[if_neg (by rw[h1];simp),if_neg h2,h3]
theorem ZN {qf:ByteArray}{l:List Rec}(h1:qj qf=true)(h2:¬2000<l.length)(h3:zn.yZ qf l=none):zn.yx qf l=zn.zB qf l:=by
 unfold zn.yx;rw[if_neg (by rw[h1];simp),if_neg h2,h3]
theorem kE.bad {qf:ByteArray}{l:List Rec}{w w':World}{k c:Int}(h:zn.yx qf l=some (k,c))(hB:Below w.heap.size w w'):kE qf l w (.returned (.tuple #[.pointer none,.int .i64 k,.int .i64 c])) w':=by
 unfold kE
 rw[h]
 exact⟨hB,rfl⟩
theorem plain_all {qf:ByteArray}{l:List Rec}(h:zn.yZ qf l=none):∀r∈l,qj r.owner=true∧zn.jq r=false∧zx r.owner qf=true:=by
 unfold zn.yZ at h
 split at h
 ·cases h
 ·rename_i h1
  split at h
  ·cases h
  ·rename_i h2
   intro r hr
   obtain⟨k,hk,rfl⟩:=List.getElem_of_mem hr
   have a1:=zn.Zv h1 k hk
   have a2:=zn.Zv h2 k hk
   rw[zn.uf hk]at a1 a2
   refine⟨?_,a1,by simpa using a2⟩
   unfold zn.jq at a1
   simp only[Bool.not_eq_false',Bool.and_eq_true]at a1
   exact a1.1.1.1.1
theorem K3 {qf:ByteArray}{l:List Rec}(h:zn.zB qf l=none):0<l.length:=by
 cases l with
 | nil=>exact absurd h (by unfold zn.zB;simp[zn.zh,zn.xq])
 | cons r l=>simp
theorem kY {w:World}{base n size z:Nat}{v:Value}{xs:List Value}(h:w.ownsRow base 80 size v n xs)(hb:v.ownBlock=some z){qf:ByteArray}{rv sv tv:Value}:¬jK w z qf rv sv tv:=fun hz=>by
 obtain⟨c,fz,hc⟩:=Lib.ownsRow_kind h z hb
 unfold jK at hz
 rw[hc]at hz
 simp at hz
theorem zY.grownIter {w w':World}{base sb rr:Nat}{dom:List Key}{F:Key→List Rec}(h:zY w base sb dom F)(hg:w.grownBy w' (some rr))(hr:∃a b c d,w.heap[rr]? =some (.mapIter a b c d)):zY w' base sb dom F:=by
 obtain⟨a,b,c,d,hr⟩:=hr
 obtain⟨val,h1,h2,h3⟩:=h
 refine⟨val,h1.keep fun o ho=>?_,fun κ hκ=>(h2 κ hκ).kept hg (.inr fun e=>?_),h3⟩
 ·obtain⟨es,cl,hm⟩:=h1.vV
  exact(hg.block sb (qo ho) (by simpa using Y4 hm hr (by simp))).trans ho
 ·obtain⟨c',fz,hc⟩:=Lib.ownsRow_kind (h2 κ hκ) rr e
  rw[hr]at hc
  cases hc
def LoopN (w8 wr:World)(base sb tb rr:Nat)(l L:List Rec)(val:Key→Value)(c:Nat):Prop:=
 ∃done:List Key,yV Ve Ya wr sb rr (zn.vK l) val done∧zY wr base sb (zn.vK l) (fun κ=>if κ∈done then zn.qE L κ else zn.qE l κ)∧zW wr tb (zn.JP c l)∧Below base w8 wr
theorem new_any (qf:ByteArray)(l:List Rec)(hok:∀r∈l,(Lit.int .i64 r.typ).wf=true)(rv:Value)(hf:zZ rv)(w:World)(hrv:qz w rv l):
 Calls Tryz.prog 45 #[.string qf,rv] w fun e w'=>kE qf l w e w':=by
 cases hap:qj qf
 ·refine(new_name qf hap rv w).mono ?_
  rintro e w' ⟨rfl,hB⟩
  exact kE.bad (by unfold zn.yx;rw[if_pos hap]) hB
 ·obtain⟨w1,hw1⟩:∃X,X=((w.alloc (.cells #[.pointer none] 43)).alloc (.cells #[.int .i64 0] 3)).alloc (.cells #[.int .i64 0] 47):=⟨_,rfl⟩
  obtain⟨h4,h5,h6,hB1⟩:=Ug w w1 hw1
  have hs1:w1.heap.size=w.heap.size+3:=by rw[hw1];simp
  obtain⟨a,cap,rfl,hcap,hrr⟩:=hrv
  have hrv:qz w (.slice a l.length cap) l:=⟨a,cap,rfl,hcap,hrr⟩
  have HAP:=Lib.hid hap;have HW1:=Lib.hid hw1;have H4:=Lib.hid h4;have H5:=Lib.hid h5;have H6:=Lib.hid h6;have HB1:=Lib.hid hB1;have HRV:=Lib.hid hrv;have HF:=Lib.hid hf;have HOK:=Lib.hid hok
  clear hap hw1 h4 h5 h6 hB1 hrr hrv hf hok
  have hmf:=ZP
  by_cases Kz:2000<l.length
  ·have hb:decide ((2000:Int)<(l.length:Int))=true:=decide_eq_true (by omega)
   have HM:=Lib.hid Kz
   clear Kz
   go_enter_defers Tryz.func45,Tryz.ntmps45
   go_wp2_with fail
   rw[← HW1.out]
   refine(zk _ _).mono ?_
   rintro e w2 ⟨rfl,hB2⟩
   rw[HAP.out,uh]
   have HB2:=Lib.hid hB2
   clear hB2
   go_wp2_with fail
   exact Qp _ w.heap.size _ (-1) 20 (.pointer none) (.int .i64 0) (.int .i64 0) w2 ((HB2.out.block _ (qo H4.out)).trans H4.out) ((HB2.out.block _ (qo H5.out)).trans H5.out) ((HB2.out.block _ (qo H6.out)).trans H6.out) rfl rfl rfl
    (fun w' h=>kE.bad (Uh HAP.out HM.out) ((HB1.out.trans (HB2.out.mono HB1.out.size)).trans h))
  ·have hb:decide ((2000:Int)<(l.length:Int))=false:=decide_eq_false (by omega)
   have HM:=Lib.hid Kz
   have hl:l.length≤2000:=by omega
   clear Kz
   go_enter_defers Tryz.func45,Tryz.ntmps45
   go_wp2_with fail
   rw[← HW1.out]
   refine(zk _ _).mono ?_
   rintro e w2 ⟨rfl,hB2⟩
   rw[HAP.out,uh]
   have hs2:w1.heap.size≤w2.heap.size:=hB2.size
   have hBw2:=HB1.out.trans (hB2.mono (by omega))
   have h4:=(hB2.block _ (qo H4.out)).trans H4.out
   have h5:=(hB2.block _ (qo H5.out)).trans H5.out
   have h6:=(hB2.block _ (qo H6.out)).trans H6.out
   have HB2:=Lib.hid hB2;have xQ:=Lib.hid hBw2;have G4:=Lib.hid h4;have G5:=Lib.hid h5;have G6:=Lib.hid h6
   clear hB2 hBw2 h4 h5 h6
   go_wp2_with fail
   refine(jm l (by omega) _ HF.out _ (HRV.out.below xQ.out)).mono ?_
   rintro e w3 ⟨v3,rfl,hB3,hown3⟩
   obtain⟨a3,Je,rfl,hcap3⟩:=qm hown3
   have hs3:w2.heap.size≤w3.heap.size:=hB3.size
   have hBw3:=xQ.out.trans (hB3.mono (by omega))
   have h4:=(hB3.block _ (qo G4.out)).trans G4.out
   have h5:=(hB3.block _ (qo G5.out)).trans G5.out
   have h6:=(hB3.block _ (qo G6.out)).trans G6.out
   obtain⟨oz,hoz⟩:∃o,o=Obj.cells #[.string qf,.slice a3 l.length Je,.map none,.map none] 117:=⟨_,rfl⟩
   have c4:=fun o=>(qg (qP h4 o) 0).trans (rfl:(#[Value.pointer none])[0]? =some (.pointer none))
   have f4:=fun o=>qD (qP h4 o) 0
   obtain⟨wz,hwz⟩:∃X,X=(w3.alloc oz).setCell ⟨w.heap.size,0,none⟩ (.pointer (some ⟨w3.heap.size,0,none⟩)):=⟨_,rfl⟩
   have hsz:wz.heap.size=w3.heap.size+1:=by rw[hwz];simp[World.setCell]
   have g4:wz.heap[w.heap.size]? =some (.cells #[.pointer (some ⟨w3.heap.size,0,none⟩)] 43 (0,0)):=by rw[hwz];exact qy (qP h4 oz) 0 _
   have g5:wz.heap[w.heap.size+1]? =some (.cells #[.int .i64 0] 3 (0,0)):=by rw[hwz];exact qV (qP h5 oz) (by simp) _
   have g6:wz.heap[w.heap.size+2]? =some (.cells #[.int .i64 0] 47 (0,0)):=by rw[hwz];exact qV (qP h6 oz) (by simp) _
   have hzz:jK wz w3.heap.size qf (.slice a3 l.length Je) (.map none) (.map none):=by
    rw[hwz]
    have:=qV (qB (w:=w3) (o:=oz) rfl) (a:=⟨w.heap.size,0,none⟩) (by simp;omega) (.pointer (some ⟨w3.heap.size,0,none⟩))
    rw[hoz]at this
    rw[hoz]
    exact this
   have hBz:Below w.heap.size w wz:=by rw[hwz];exact(hBw3.alloc (by omega) oz).setCell (Nat.le_refl _) _
   have Xz:wz.ownsRow w2.heap.size 80 5 (.slice a3 l.length Je) l.length (qx l):=by
    rw[hwz]
    refine qi hown3 fun b hb=>?_
    have h1:=hown3.lt b hb
    have:b≠w.heap.size:=by omega
    rw[Below.heap_setCell _ _ _ _ this,Below.heap_alloc _ _ _ h1.2]
   rw[hoz]at hwz
   have hrecz:=qH Xz
   have czz:wz.cell? ⟨w.heap.size,0,none⟩=some (.pointer (some ⟨w3.heap.size,0,none⟩)):=by rw[qg g4];rfl
   have HWZ:=Lib.hid hwz;have HG4:=Lib.hid g4;have HG5:=Lib.hid g5;have HG6:=Lib.hid g6;have HZZ:=Lib.hid hzz;have HBZ:=Lib.hid hBz;have X9:=Lib.hid Xz;have HRECZ:=Lib.hid hrecz;have HCZZ:=Lib.hid czz
   clear hB3 hown3 hBw3 h4 h5 h6 hoz hwz g4 g5 g6 hzz hBz Xz hrecz czz
   go_wp2_with fail
   rw[← HWZ.out]
   clear c4 f4
   refine(plain_any qf l hl w3.heap.size _ _ _ wz HZZ.out HRECZ.out).mono ?_
   intro e w4 hp
   obtain⟨ht,hB4⟩:=hp
   have hs4:wz.heap.size≤w4.heap.size:=hB4.size
   have c4:=(hB4.cell (p:=⟨w.heap.size,0,none⟩) (by show w.heap.size<_;omega)).trans HCZZ.out
   have g4:=(hB4.block _ (qo HG4.out)).trans HG4.out
   have g5:=(hB4.block _ (qo HG5.out)).trans HG5.out
   have g6:=(hB4.block _ (qo HG6.out)).trans HG6.out
   have HK4:=Lib.hid g4;have HK5:=Lib.hid g5;have HK6:=Lib.hid g6;have HB4:=Lib.hid hB4
   clear g4 g5 g6 hB4
   rcases hpl:zn.yZ qf l with _ | ⟨k,c⟩
   ·rw[hpl]at ht
    obtain rfl:e=_:=ht
    have HPL:=Lib.hid hpl
    clear hpl
    have hpn:=plain_all HPL.out
    go_wp2_with fail
    have hz4:=(HB4.out.block _ (qo HZZ.out)).trans HZZ.out
    have ja:=qi X9.out fun b hb=>HB4.out.block b (X9.out.lt b hb).2
    have hz3:∀b,(Value.slice a3 l.length Je).ownBlock=some b→b≠w3.heap.size:=fun b hb e=>by
     subst e
     exact kY ja hb hz4
    refine(XK qf HAP.out l hl (fun r hr=>⟨(hpn r hr).1,HOK.out r hr⟩) w3.heap.size _ _ _ w4 hz4 (fun W hg=>qH (qi ja fun b hb=>hg.block b (ja.lt b hb).2 (by simpa using hz3 b hb)))).mono ?_
    rintro e w5 ⟨rfl,hg5,sb,tb,hsb,htb,hst,hz5,hS5,hT5⟩
    have hzl:w3.heap.size<w4.heap.size:=qo hz4
    have hBw5:Below w.heap.size w w5:=(HBZ.out.trans (HB4.out.mono (by omega))).grown hg5 (by omega) (fun j e=>by cases e;omega)
    have hown5:=qi ja fun b hb=>hg5.block b (ja.lt b hb).2 (by simpa using hz3 b hb)
    have hs5:w4.heap.size≤w5.heap.size:=hg5.size
    have k4:=(hg5.block w.heap.size (by omega) (by simp;omega)).trans HK4.out
    have k5:=(hg5.block (w.heap.size+1) (by omega) (by simp;omega)).trans HK5.out
    have k6:=(hg5.block (w.heap.size+2) (by omega) (by simp;omega)).trans HK6.out
    have c5:w5.cell? ⟨w.heap.size,0,none⟩=some (.pointer (some ⟨w3.heap.size,0,none⟩)):=by rw[qg k4];rfl
    have Ju:=Lib.hid hown5;have HZ5:=Lib.hid hz5;have HS5:=Lib.hid hS5;have HT5:=Lib.hid hT5;have HBW5:=Lib.hid hBw5;have HL4:=Lib.hid k4;have HL5:=Lib.hid k5;have HL6:=Lib.hid k6;have HPN:=Lib.hid hpn
    clear hpn hz4 ja hz3 hg5 hz5 hS5 hT5 hBw5 hown5 k4 k5 k6 c4
    go_wp2_with fail
    refine(rules_any qf l hl (fun r hr=>⟨(HPN.out r hr).1,HOK.out r hr⟩) w3.heap.size sb w4.heap.size _ _ w5 HZ5.out (qH Ju.out) HS5.out).mono ?_
    intro e w6 hp
    obtain⟨ht,hB6⟩:=hp
    have hs6:w5.heap.size≤w6.heap.size:=hB6.size
    have hBw6:=HBW5.out.trans (hB6.mono (by omega))
    have k4:=(hB6.block _ (qo HL4.out)).trans HL4.out
    have k5:=(hB6.block _ (qo HL5.out)).trans HL5.out
    have k6:=(hB6.block _ (qo HL6.out)).trans HL6.out
    have hz6:=(hB6.block _ (qo HZ5.out)).trans HZ5.out
    have hown6:=qi Ju.out fun b hb=>hB6.block b (Ju.out.lt b hb).2
    have hS6:=HS5.out.below hB6
    have hT6:=HT5.out.below hB6
    have c6:w6.cell? ⟨w.heap.size,0,none⟩=some (.pointer (some ⟨w3.heap.size,0,none⟩)):=by rw[qg k4];rfl
    have z6:w6.cell? ⟨w3.heap.size,1,none⟩=some (.slice a3 l.length Je):=by rw[qg hz6];rfl
    have HM4:=Lib.hid k4;have HM5:=Lib.hid k5;have HM6:=Lib.hid k6;have HBW6:=Lib.hid hBw6;have HZ6:=Lib.hid hz6;have HOWN6:=Lib.hid hown6;have HS6:=Lib.hid hS6;have HT6:=Lib.hid hT6
    clear k4 k5 k6 hBw6 hz6 hown6 hS6 hT6 hB6 c5
    rcases hru:zn.zB qf l with _ | ⟨k,c⟩
    ·rw[hru]at ht
     obtain rfl:e=_:=ht
     have HRU:=Lib.hid hru
     clear hru
     have hpos:=K3 HRU.out
     obtain⟨g3,cap4,hv,hg30,hg31⟩:=HOWN6.out.form hpos
     simp only[Value.slice.injEq,true_and]at hv
     obtain⟨rfl,rfl⟩:=hv
     have HRB:=Lib.hid hg30
     go_wp2_with fail
     refine(xV l hl (fun r hr=>(HPN.out r hr).1) _ g3 Je w6 HOWN6.out).mono ?_
     rintro e w7 ⟨rfl,hg7,L,hL,UX⟩
     have hn:zn.jy l:=fun r hr=>(HPN.out r hr).1
     have hu:zn.Uniq l:=zn.Vw (zn.uP (zn.xy HRU.out))
     have hLl:L.length=l.length:=hL.1.length_eq
     have hs7:w6.heap.size≤w7.heap.size:=hg7.size
     have hg3:w2.heap.size≤g3∧g3<w3.heap.size+1:=by
      have h1:=X9.out.lt g3 rfl
      omega
     have hBw7:=HBW6.out.grown hg7 (by omega) (fun j e=>by cases e;omega)
     have hne3:g3≠w3.heap.size:=fun e=>by subst e;exact kY HOWN6.out rfl HZ6.out
     have hz7:=(hg7.block _ (qo HZ6.out) (by simpa using Ne.symm hne3)).trans HZ6.out
     have k4:=(hg7.block w.heap.size (by omega) (by simp;omega)).trans HM4.out
     have k5:=(hg7.block (w.heap.size+1) (by omega) (by simp;omega)).trans HM5.out
     have k6:=(hg7.block (w.heap.size+2) (by omega) (by simp;omega)).trans HM6.out
     have hS7:zY w7 w4.heap.size sb (zn.vK l) (zn.qE l):=HS6.out.keep fun b hb hlt=>hg7.block b hlt (by simp;omega)
     have hT7:zW w7 tb (zn.JP (qG qf).toNat l):=HT6.out.grown hg7 (by simp;omega)
     obtain⟨val7,hM7,hR7,hD7⟩:=hS7
     have hS7:zY w7 w4.heap.size sb (zn.vK l) (zn.qE l):=⟨val7,hM7,hR7,hD7⟩
     obtain⟨w8,hrun8,hRF8,hB8,hs8⟩:=Xm Tryz.underlying114 hM7
     have c7:w7.cell? ⟨w.heap.size,0,none⟩=some (.pointer (some ⟨w3.heap.size,0,none⟩)):=by rw[qg k4];rfl
     have z7:w7.cell? ⟨w3.heap.size,2,none⟩=some (.map (some sb)):=by rw[qg hz7];rfl
     have HBW7:=Lib.hid hBw7;have HZ7:=Lib.hid hz7;have HN4:=Lib.hid k4;have HN5:=Lib.hid k5;have HN6:=Lib.hid k6;have HS7:=Lib.hid hS7;have HT7:=Lib.hid hT7;have HRF8:=Lib.hid hRF8;have HB8:=Lib.hid hB8
     have HOWN7:=Lib.hid UX;have HL:=Lib.hid hL;have HNN:=Lib.hid hn;have HUU:=Lib.hid hu;have HLL:=Lib.hid hLl;have HS8:=Lib.hid hs8
     have hs8':w7.heap.size<w8.heap.size:=by omega
     clear hg7 hBw7 hz7 k4 k5 k6 hS7 hT7 hM7 hR7 hD7 hRF8 hB8 UX hL hn hu hLl hs8 c6 z6
     go_wp2_with fail
     clear hrun8 c7 z7
     go_loopw [] (fun wr=>LoopN w8 wr w4.heap.size sb tb w7.heap.size l L val7 (qG qf).toNat) (fun wr=>wr.rangeLeft sb w7.heap.size)
     case atStart=>
      exact⟨[],HRF8.out,(HS7.out.below HB8.out).congr (fun κ _=>by simp),HT7.out.below HB8.out,Below.refl _ _⟩
     case round=>
      obtain⟨done,hRF,hS,hT,hB⟩:=hrel
      have hsr:w8.heap.size≤wr.heap.size:=hB.size
      have YB:Below w4.heap.size w7 wr:=(HB8.out.mono (by omega)).trans hB
      have hzr:=(YB.block _ hzl).trans HZ7.out
      have k4:=(YB.block w.heap.size (by omega)).trans HN4.out
      have k5:=(YB.block (w.heap.size+1) (by omega)).trans HN5.out
      have k6:=(YB.block (w.heap.size+2) (by omega)).trans HN6.out
      have hBwr:Below w.heap.size w wr:=HBW7.out.trans (YB.mono (by omega))
      rcases hRF.next (P:=Tryz.prog) 0 with⟨hall,hrun⟩|⟨κ,w9,hd,hnd,hrun,hRF9,hg9,hs9,hdec,hent⟩
      ·have c4:wr.cell? ⟨w.heap.size,0,none⟩=some (.pointer (some ⟨w3.heap.size,0,none⟩)):=by rw[qg k4];rfl
       have c5:wr.cell? ⟨w.heap.size+1,0,none⟩=some (.int .i64 0):=by rw[qg k5];rfl
       have c6:wr.cell? ⟨w.heap.size+2,0,none⟩=some (.int .i64 0):=by rw[qg k6];rfl
       have f4:wr.frozen? ⟨w.heap.size,0,none⟩=false:=qD k4 0
       have f5:wr.frozen? ⟨w.heap.size+1,0,none⟩=false:=qD k5 0
       have f6:wr.frozen? ⟨w.heap.size+2,0,none⟩=false:=qD k6 0
       have zJ:=Lib.hid hall;have HS:=Lib.hid hS;have HT:=Lib.hid hT;have HZR:=Lib.hid hzr;have HBWR:=Lib.hid hBwr;have K4:=Lib.hid k4;have K5:=Lib.hid k5;have K6:=Lib.hid k6;have HB7R:=Lib.hid YB
       clear hRF hall hS hT hzr hBwr k4 k5 k6 YB hB
       go_wp2_with fail
       obtain⟨We,hWe⟩:∃X,X=((wr.setCell ⟨w.heap.size,0,none⟩ (.pointer (some ⟨w3.heap.size,0,none⟩))).setCell ⟨w.heap.size+1,0,none⟩ (.int .i64 0)).setCell ⟨w.heap.size+2,0,none⟩ (.int .i64 0):=⟨_,rfl⟩
       have d4:We.heap[w.heap.size]? =some (.cells #[.pointer (some ⟨w3.heap.size,0,none⟩)] 43 (0,0)):=by
        rw[hWe]
        exact qV (qV (qy K4.out 0 _) (by simp) _) (by simp) _
       have d5:We.heap[w.heap.size+1]? =some (.cells #[.int .i64 0] 3 (0,0)):=by
        rw[hWe]
        exact qV (qy (qV K5.out (by simp) _) 0 _) (by simp) _
       have d6:We.heap[w.heap.size+2]? =some (.cells #[.int .i64 0] 47 (0,0)):=by
        rw[hWe]
        exact qy (qV (qV K6.out (by simp) _) (by simp) _) 0 _
       have KA:∀b,b≠w.heap.size→b≠w.heap.size+1→b≠w.heap.size+2→We.heap[b]? =wr.heap[b]?:=fun b n1 n2 n3=>by
        rw[hWe,Below.heap_setCell _ _ _ _ n3,Below.heap_setCell _ _ _ _ n2,Below.heap_setCell _ _ _ _ n1]
       have hBe:Below w.heap.size w We:=by
        rw[hWe]
        exact((HBWR.out.setCell (Nat.le_refl _) _).setCell (Nat.le_succ _) _).setCell (by simp only;omega) _
       have hsb':=hsb;have htb':=htb
       have hzone:X7 We w3.heap.size qf L:=by
        refine⟨w4.heap.size,g3,Je,sb,tb,l,HL.out.1.symm,?_,?_,?_,?_⟩
        ·rw[HLL.out]
         exact(KA _ (by omega) (by omega) (by omega)).trans HZR.out
        ·rw[HLL.out]
         refine qK (qi HOWN7.out fun b hb=>?_) (Nat.zero_le _)
         obtain rfl:g3=b:=by simpa[Value.ownBlock] using hb
         exact(KA _ (by omega) (by omega) (by omega)).trans (HB7R.out.block _ (by omega))
        ·refine(HS.out.congr fun κ hκ=>by rw[if_pos (zJ.out κ hκ)]).keep fun b hb _=>KA b (by omega) (by omega) (by omega)
        ·exact HT.out.keep fun _=>KA tb (by omega) (by omega) (by omega)
       have hpost:kE qf l w (.returned (.tuple #[.pointer (some ⟨w3.heap.size,0,none⟩),.int .i64 0,.int .i64 0])) We:=by
        unfold kE
        rw[(ZN HAP.out HM.out HPL.out).trans HRU.out]
        exact⟨hBe,_,L,by omega,HL.out,rfl,xS.new hzone⟩
       rw[← hWe]
       exact new_out _ w.heap.size w3.heap.size _ We (by rw[qg d4];rfl) (by rw[qg d5];rfl) (by rw[qg d6];rfl) rfl rfl rfl hpost
      ·have hs9':wr.heap.size≤w9.heap.size:=hg9.size
       have hκ:Ya κ:=hRF.2.1 κ hd
       have XD:=hRF.VB
       have hrl:=hRF.lt
       have hS9:=hS.grownIter hg9 XD
       have hT9:=hT.grown hg9 (by
        obtain⟨es,c,hm⟩:=hT.vV
        obtain⟨_,_,_,_,hi⟩:=XD
        simpa using Y4 hi hm (by simp))
       obtain⟨ok,hok⟩:∃o,o=Obj.cells #[.string κ.1,.int .i64 κ.2] 140:=⟨_,rfl⟩
       obtain⟨W,hW⟩:∃X,X=(w9.alloc ok).drew:=⟨_,rfl⟩
       have Uq:Below w9.heap.size w9 W:=by rw[hW];exact((Below.refl _ w9).alloc (Nat.le_refl _) ok).drew
       have hSW:=hS9.below Uq
       have hTW:=hT9.below Uq
       have hRW:=hRF9.below Uq
       have hsW:W.heap.size=w9.heap.size+1:=by rw[hW];simp
       have hFκ:(if κ∈done then zn.qE L κ else zn.qE l κ)=zn.qE l κ:=if_neg hnd
       obtain⟨g,capg,hlk,hown,hbg,hgl,hgs,hupd⟩:=sets_take hSW hκ hd (by rw[hFκ];exact zn.JC hd)
       rw[hFκ]at hlk hown hupd
       have hB8W:Below w4.heap.size w8 W:=(hB.grown hg9 (by omega) (fun j e=>by cases e;omega)).trans (Uq.mono (by omega))
       have hB7W:Below w4.heap.size w7 W:=(HB8.out.mono (by omega)).trans hB8W
       have hzW:=(hB7W.block _ hzl).trans HZ7.out
       have k4W:=(hB7W.block w.heap.size (by omega)).trans HN4.out
       have e1:W.cell? ⟨w.heap.size,0,none⟩=some (.pointer (some ⟨w3.heap.size,0,none⟩)):=by rw[qg k4W];rfl
       have e2:W.cell? ⟨w3.heap.size,2,none⟩=some (.map (some sb)):=by rw[qg hzW];rfl
       have hko:W.heap[w9.heap.size]? =some (.cells #[.string κ.1,.int .i64 κ.2] 140 (0,0)):=by rw[hW,hok];exact qB (w:=w9) rfl
       have e3:W.cell? ⟨w9.heap.size,0,none⟩=some (.string κ.1):=by rw[qg hko];rfl
       have e4:W.cell? ⟨w9.heap.size,1,none⟩=some (.int .i64 κ.2):=by rw[qg hko];rfl
       have hlen:(zn.qE l κ).length≤l.length:=List.length_filter_le _ _
       obtain⟨κ1,κ2⟩:=κ
       have HLK:=Lib.hid hlk;have HOWN:=Lib.hid hown;have HUPD:=Lib.hid hupd;have HE1:=Lib.hid e1;have HE2:=Lib.hid e2;have HE3:=Lib.hid e3;have HE4:=Lib.hid e4;have HW:=Lib.hid hW;have HOK2:=Lib.hid hok
       have HRF9:=Lib.hid hRF9;have HRW:=Lib.hid hRW;have HTW:=Lib.hid hTW;have HDEC:=Lib.hid hdec;have HB8W:=Lib.hid hB8W;have HB9W:=Lib.hid Uq;have HFK:=Lib.hid hFκ;have HHD:=Lib.hid hd;have HND:=Lib.hid hnd
       clear hlk hown hupd e1 e2 e3 e4 hW hok hRF9 hRW hTW hdec hB8W Uq hFκ hd hnd hRF hS hT hB hS9 hT9 hSW hg9 hko k4W hzW hB7W k4 k5 k6 hzr hBwr YB XD
       have HS9:=Lib.hid hs9
       clear hs9
       go_wp2_with fail
       have ho2:Obj.cells #[.string κ1,.int .i64 κ2] 140=ok:=HOK2.out.symm
       rw[ho2]
       clear ho2 hrun hent
       refine wp_region_still_tail 6 (by kernel_rfl) (by kernel_rfl) ?_
       have hws:({ heap:=(w9.alloc ok).heap,tape:=(w9.alloc ok).tape,drawn:=(w9.alloc ok).drawn+1,os:=(w9.alloc ok).os,output:=(w9.alloc ok).output}:World)=W:=HW.out.symm
       rw[hws]
       clear hws
       have e1:=HE1.out;have e2:=HE2.out;have e3:=HE3.out;have e4:=HE4.out;have hlk:=HLK.out
       simp only[List.take_succ_cons,List.take_zero,List.drop_succ_cons,List.drop_zero]
       repeat still_step
       refine wpStill_nil ?_
       go_wp2_with fail
       have hin:∀r∈zn.qE l (κ1,κ2),r∈l:=fun r hr=>(List.mem_filter.1 hr).1
       refine(xV (zn.qE l (κ1,κ2)) (by omega) (fun r hr=>HNN.out r (hin r hr)) _ g capg W HOWN.out).mono ?_
       rintro e w11 ⟨rfl,JM,L',hL',XA⟩
       have hLe:L'=zn.qE L (κ1,κ2):=hL'.eq (HL.out.rows (κ1,κ2)) (fun r hr=>HNN.out r (hin r hr)) (HUU.out.sub hin)
       have hS11:=HUPD.out w11 L' hL'.1.length_eq JM XA
       have hgr:g≠w7.heap.size:=fun e=>by
        subst e
        obtain⟨c',fz,hc⟩:=Lib.ownsRow_kind HOWN.out _ rfl
        obtain⟨_,_,_,_,hi⟩:=HRW.out.VB
        rw[hi]at hc
        cases hc
       have hgt:g≠tb:=fun e=>by
        subst e
        obtain⟨es,c,hm⟩:=HTW.out.vV
        exact yS HOWN.out hm rfl
       have hRF11:=HRW.out.grown JM (by simpa using hgs) (by simpa using hgr)
       have hT11:=HTW.out.grown JM (by simpa using hgt)
       have YC:=HB8W.out.grown JM (by omega) (fun j e=>by cases e;exact hbg)
       have hrl:w11.rangeLeft sb w7.heap.size<wr.rangeLeft sb w7.heap.size:=by
        have h1:=HRF9.out.map.lt
        have h2:=HRF9.out.lt
        have h3:w11.rangeLeft sb w7.heap.size=w9.rangeLeft sb w7.heap.size:=Yo ((JM.block sb (by omega) (by simpa using Ne.symm hgs)).trans (HB9W.out.block sb h1)) ((JM.block _ (by omega) (by simpa using Ne.symm hgr)).trans (HB9W.out.block _ h2))
        rw[h3]
        exact HDEC.out
       have HS11:=Lib.hid hS11;have HRF11:=Lib.hid hRF11;have HT11:=Lib.hid hT11;have HB11:=Lib.hid YC;have HRL:=Lib.hid hrl;have HLE:=Lib.hid hLe
       clear hS11 hRF11 hT11 YC hrl hLe hL' XA JM hin e1 e2 e3 e4 hlk
       go_wp2_with fail
       go_roundw
       case rel=>
        refine⟨done ++ [(κ1,κ2)],HRF11.out,HS11.out.congr fun κ' _=>?_,HT11.out,HB11.out⟩
        by_cases he:κ'=(κ1,κ2)
        ·subst he
         simp[HLE.out]
        ·simp[he]
       case measure=>exact HRL.out
    ·rw[hru]at ht
     obtain rfl:e=_:=ht
     have HRU:=Lib.hid hru
     clear hru
     go_wp2_with fail
     exact Qp _ w.heap.size _ k c _ _ _ w6 HM4.out HM5.out HM6.out rfl rfl rfl (fun w' h=>kE.bad ((ZN HAP.out HM.out HPL.out).trans HRU.out) (HBW6.out.trans h))
   ·rw[hpl]at ht
    obtain rfl:e=_:=ht
    have HPL:=Lib.hid hpl
    clear hpl
    go_wp2_with fail
    exact Qp _ w.heap.size _ k c _ _ _ w4 HK4.out HK5.out HK6.out rfl rfl rfl (fun w' h=>kE.bad (Xh HAP.out HM.out HPL.out) ((HBZ.out.trans (HB4.out.mono (by omega))).trans h))
end Go.Proofs.YtpcmilhjpmlbpaaGreatDoor
namespace Go.Proofs.YtpcmilhjpmlbpaaGreatDoor
open Go.RowKit Go.Shelf Go.WideMaps nm od
def jV (L:List Rec)(w:World)(e:Ending)(w':World):Prop:=∃v,e= .returned v∧Below w.heap.size w w'∧w'.ownsRow w.heap.size 80 5 v L.length (qx L)
theorem vw (z:Nat)(qf:ByteArray)(rv sv tv:Value)(w:World)(hz:jK w z qf rv sv tv):
 Calls Tryz.prog 24 #[.pointer (some ⟨z,0,none⟩)] w fun e w'=>e= .returned (.string qf)∧w'=w:=by
 have z0:w.cell? ⟨z,0,none⟩=some (.string qf):=by rw[qg hz];rfl
 clear hz
 go_enter Tryz.func24,Tryz.ntmps24
 go_wp2
 go_ret
 exact⟨rfl,rfl⟩
theorem uI (top z:Nat)(qf:ByteArray)(L:List Rec)(hL:L.length≤2000)(w:World)(hz:xS w top z qf L):
 Calls Tryz.prog 23 #[.pointer (some ⟨z,0,none⟩)] w fun e w'=>jV L w e w':=by
 obtain⟨base,rg,cap,sb,tb,l0,h1,h2,h3,h4,h5⟩:=hz.parts
 have z1:w.cell? ⟨z,1,none⟩=some (.slice (some ⟨rg,0,none⟩) L.length cap):=by rw[qg h2];rfl
 have HC:=Lib.hid (jm L (by omega) _ (Y0 h3) w (qH h3))
 clear h1 h2 h3 h4 h5 hz
 go_enter Tryz.func23,Tryz.ntmps23
 go_wp2_with fail
 refine HC.out.mono ?_
 rintro e w' ⟨v,rfl,hB,hown⟩
 have HB:=Lib.hid hB;have HO:=Lib.hid hown
 clear hB hown
 go_wp2_with fail
 go_ret
 exact⟨v,rfl,HB.out,HO.out⟩
theorem rowsS_len (L:List Rec)(κ:Key):(zn.qE L κ).length≤L.length:=List.length_filter_le _ _
theorem VQ {l L:List Rec}(h:l.Perm L){κ:Key}(hκ:κ∉zn.vK l):zn.qE L κ= []:=by
 have h1:=zn.Qk hκ
 have h2:=(h.filter fun r=>decide (zn.zV r=κ)).length_eq
 unfold zn.qE at h1 ⊢
 rw[h1]at h2
 exact List.eq_nil_of_length_eq_zero h2.symm
theorem set_any (top z:Nat)(qf:ByteArray)(L:List Rec)(hL:L.length≤2000)(n:ByteArray)(t:Int)(ht:(Lit.int .i64 t).wf=true)(w:World)(hz:xS w top z qf L):
 Calls Tryz.prog 85 #[.pointer (some ⟨z,0,none⟩),.string n,.int .i64 t] w fun e w'=>jV (zn.qE L (qw n,t)) w e w':=by
 obtain⟨base,rg,cap,sb,tb,l0,h1,h2,h3,h4,h5⟩:=hz.parts
 have z2:w.cell? ⟨z,2,none⟩=some (.map (some sb)):=by rw[qg h2];rfl
 obtain⟨v,hv,hown⟩:=Zc h4 (fun κ hκ=>VQ h1 hκ) (κ:=(qw n,t)) ⟨ZR _,ht⟩
 have e1:=qh z2
 have e2:=fun p=>hv (gw w p) (qC w p)
 have hll:=rowsS_len L (qw n,t)
 have HO:=Lib.hid hown
 clear h1 h2 h3 h4 h5 hz hv hown z2
 go_enter Tryz.func85,Tryz.ntmps85
 go_wp2_with fail
 refine xh (C:=fun W=>∃p,W=gw w p) 9 (by kernel_rfl) (by kernel_rfl) (gw_draw w) ?_
 simp only[List.take_succ_cons,List.take_zero,List.drop_succ_cons,List.drop_zero]
 repeat (with_reducible refine wpQuiet_step (fun K hK=>?_);go_simp;first | (with_reducible refine hK _ ?_;clear hK K) | (apply Exists.intro;refine⟨fun _=>?_,hK _ ?_⟩;(first | (go_at_call 101;exact qU (jY _ _)));clear hK K))
 with_reducible refine wpQuiet_nil ?_
 intro W hW
 have hBW:Below w.heap.size w W:=by obtain⟨p,rfl⟩:=hW;exact qC _ _
 clear e1 e2 hW
 have HBW:=Lib.hid hBW
 have hown2:=qi HO.out fun b hb=>hBW.block b (HO.out.lt b hb).2
 have HC:=Lib.hid (jm (zn.qE L (qw n,t)) (by omega) _ (Y0 hown2) W (qH hown2))
 clear hown2 hBW
 go_wp2_with fail
 refine HC.out.mono ?_
 rintro e w' ⟨v',rfl,hB,hown⟩
 have HB:=Lib.hid hB;have HO2:=Lib.hid hown
 clear hB hown
 go_wp2_with fail
 go_ret
 exact⟨v',rfl,HBW.out.trans (HB.out.mono HBW.out.size),qK HO2.out HBW.out.size⟩
end Go.Proofs.YtpcmilhjpmlbpaaGreatDoor
namespace Go.Proofs.YtpcmilhjpmlbpaaGreatDoor
open Go.RowKit Go.Shelf Go.WideMaps nm od
namespace zn
end zn
end Go.Proofs.YtpcmilhjpmlbpaaGreatDoor
