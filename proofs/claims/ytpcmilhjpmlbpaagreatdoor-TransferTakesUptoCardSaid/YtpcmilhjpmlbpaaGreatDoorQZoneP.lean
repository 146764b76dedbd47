import Derived.Test.YtpcmilhjpmlbpaaGreatDoorQSort
import Derived.Test.YtpcmilhjpmlbpaaGreatDoorQZoneL
import Derived.Defers
import Derived.Recover
import Derived.StillTailTactics
set_option maxRecDepth 100000
set_option maxHeartbeats 1000000
namespace Go.Proofs.YtpcmilhjpmlbpaaGreatDoor
open Go.RowKit Go.Shelf nm
def zx (v:Value):Prop:=v= .slice none 0 0\/∃b off n cap,v= .slice (some ⟨b,off,none⟩) n cap
theorem J6 {w:World}{base n:Nat}{e:TypeId}{size:Nat}{v:Value}{xs:List Value}(h:w.ownsRow base e size v n xs):zx v:=by
 rcases h.2 with⟨rfl,_⟩|⟨g,cap,cur,rfl,_⟩
 ·exact .inl rfl
 ·exact .inr ⟨_,_,_,_,rfl⟩
theorem YR {w:World}{b off cap n:Nat}{l:List Rec}(h:ql w (.slice (some ⟨b,off,none⟩) n cap) l):n=l.length/\∀j u,(qw l)[j]? =some u->w.cell? ⟨b,off+j,none⟩=some u:=by
 obtain⟨a,cap',hv,_,hr⟩:=h;simp only[gL]at hv;obtain⟨rfl,rfl,rfl⟩:=hv;refine⟨rfl,λj u hu=>?_⟩;have hj:j<l.length*5:=by rw[<- zM];exact(List.getElem?_eq_some_iff.1 hu).1
 rw[recsC_at l j hj]at hu;obtain⟨b',off',he,_,c0,c1,c2,c3,c4⟩:=hr (j / 5) (by omega);simp only[gM,Addr.mk.injEq,and_true]at he;obtain⟨rfl,rfl⟩:=he;have hm:off+j=off+j / 5*5+j % 5:=by omega
 have h5:j % 5<5:=by omega
 rw[hm]
 generalize j % 5=q at *
 match q,h5 with
 | 0,_=>simp only[List.getElem?_cons_zero,gM]at hu;rw[<- hu];exact c0
 | 1,_=>simp only[List.getElem?_cons_succ,List.getElem?_cons_zero,gM]at hu;rw[<- hu];exact c1
 | 2,_=>simp only[List.getElem?_cons_succ,List.getElem?_cons_zero,gM]at hu;rw[<- hu];exact c2
 | 3,_=>simp only[List.getElem?_cons_succ,List.getElem?_cons_zero,gM]at hu;rw[<- hu];exact c3
 | 4,_=>simp only[List.getElem?_cons_succ,List.getElem?_cons_zero,gM]at hu;rw[<- hu];exact c4
theorem qF {w:World}{base:Nat}{v:Value}{l:List Rec}(h:w.ownsRow base 80 5 v l.length (qw l)):ql w v l:=by
 obtain⟨a,cap,rfl,hc⟩:=qj h;refine⟨a,cap,rfl,hc,λk hk=>?_⟩;rcases h.2 with⟨h0,h1⟩|⟨g,cap',cur,hv,hb,hg,rest⟩
 ·omega
 ·simp only[gL,true_and]at hv;obtain⟨rfl,rfl⟩:=hv
  have hcl:∀j u,(qw l)[j]? =some u->w.cell? ⟨g,j,none⟩=some u:=λj u hu=>by
   have:=h.cells (g:=g) rfl j u hu;rw[Addr.add_lit,Nat.zero_add]at this;exact this
  have hat:∀j v,(recC l[k])[j]? =some v->w.cell? ⟨g,k*5+j,none⟩=some v:=λj v hv=>hcl _ _ (Vz l k hk j v hv);refine⟨g,0,rfl,qA hg,?_⟩;rw[Nat.zero_add];exact⟨hat 0 _ rfl,hat 1 _ rfl,hat 2 _ rfl,hat 3 _ rfl,hat 4 _ rfl⟩
theorem kX (l:List Rec)(hl:l.length*56<=140737488355328)(v:Value)(hf:zx v)(w:World)(hrv:ql w v l):
 Calls Tryz.prog 38 #[v] w λe w'=>∃v',e= .returned v'/\Below w.heap.size w w'/\w'.ownsRow w.heap.size 80 5 v' l.length (qw l):=by
 rcases hf with rfl | ⟨b,off,n,cap,rfl⟩
 ·obtain⟨a,cap,hv,hc,_⟩:=hrv;simp only[gL]at hv;have hl0:l= []:=Hm hv.2.1.symm;subst hl0;refine(AnyE.slices_Clone_nil Tryz.cloneR 0 0 w).mono ?_;rintro e w' ⟨rfl,rfl⟩;exact⟨_,rfl,gJ _ _,gZ w' _ _ 5⟩
 ·obtain⟨rfl,hcl⟩:=YR hrv;obtain⟨i0,hi0,hz0,hz1,hz2⟩:=info_parts kT;refine(AnyE.slices_Clone Tryz.cloneR i0 _ 5 56 hi0 hz0 hz1 hz2 rfl (by omega) (λw=>by kernel_rfl) b off l.length cap (qw l) w (zM l) (by unfold maxLen;omega) hl hcl (λu hu=>?_)).mono ?_
  ·obtain⟨r,_,hr⟩:=List.mem_flatMap.1 hu;simp only[List.mem_cons,List.not_mem_nil,or_false]at hr;rcases hr with rfl | rfl | rfl | rfl | rfl <;> rfl
  ·rintro e w' ⟨v',rfl,h1,_,h2⟩;exact⟨v',rfl,h2,h1⟩
open Go.WideMaps
theorem catch_broken (B a4 a5 a6:Nat)(v4 v5 v6:Value)(k c:Int)(w:World)(h4:w.heap[a4]? =some (.cells #[v4] 43 (0,0)))(h5:w.heap[a5]? =some (.cells #[v5] 3 (0,0)))(h6:w.heap[a6]? =some (.cells #[v6] 47 (0,0)))
 (b4:B<=a4) (b5:B<=a5) (b6:B<=a6) (n45:a4≠a5) (n46:a4≠a6) (n56:a5≠a6):
 CallsD Tryz.prog 75 #[.pointer (some ⟨a4,0,none⟩),.pointer (some ⟨a5,0,none⟩),.pointer (some ⟨a6,0,none⟩)] (.panicking [{ v:=vk k c,recovered:=false}]) w λe u' w'=>
  e= .returned (.tuple #[])/\u'= .panicking [{ v:=vk k c,recovered:=true}]/\Below B w w'/\w'.cell? ⟨a4,0,none⟩=some (.pointer none)/\w'.cell? ⟨a5,0,none⟩=some (.int .i64 k)/\w'.cell? ⟨a6,0,none⟩=some (.int .i64 c):=by
 have c4:w.cell? ⟨a4,0,none⟩=some v4:=by rw[qg h4];rfl
 have c5:w.cell? ⟨a5,0,none⟩=some v5:=by rw[qg h5];rfl
 have c6:w.cell? ⟨a6,0,none⟩=some v6:=by rw[qg h6];rfl
 have f4:w.frozen? ⟨a4,0,none⟩=false:=qB h4 0;have f5:w.frozen? ⟨a5,0,none⟩=false:=qB h5 0;have f6:w.frozen? ⟨a6,0,none⟩=false:=qB h6 0;refine callsD_of_wpS Tryz.func75 rfl λc₀ cs hu=>?_;apply wpS_seq;apply wpS_region;simp[wpOpsS,go_sem,recoverD,hu,Tryz.ntmps75,Exit.thenS];refine wpS_of_wp ?_;have HU:=qe hu;have H4:=qe h4;have H5:=qe h5;have H6:=qe h6;clear h4 h5 h6 hu
 have hfr:(#[Value.pointer (some { block:=a4,off:=0}),Value.pointer (some { block:=a5,off:=0}),Value.pointer (some { block:=a6,off:=0})] ++ ((Array.replicate 18 undef).setIfInBounds 3 (vk k c)).setIfInBounds 0 (vk k c)) =
  #[.pointer (some ⟨a4,0,none⟩),.pointer (some ⟨a5,0,none⟩),.pointer (some ⟨a6,0,none⟩),vk k c,undef,undef,vk k c,undef,undef,undef,undef,undef,undef,undef,undef,undef,undef,undef,undef,undef,undef]:=by kernel_rfl
 rw[hfr];clear hfr;have hn:∀W:World,(binOp BinOp.neq 20 (vk k c) .nilIface).run Tryz.prog W= .ok (.bool true) W:=λ_=>by kernel_rfl
 have ht:∀W:World,(Instr.typeAssert (vk k c) 20 135 true).run Tryz.prog W= .ok (.tuple #[.agg #[.int .i64 k,.int .i64 c],.bool true]) W:=λ_=>by kernel_rfl
 go_upto_region 5 with fail;clear hn ht c4 c5 c6 f4 f5 f6;obtain⟨o,ho⟩:=yM (Obj.cells #[.int .i64 k,.int .i64 c] 135);have g4:=zi H4.out o;have g5:=zi H5.out o;have g6:=zi H6.out o;have gn:(w.alloc o).heap[w.heap.size]? =some o:=qz rfl;have l4:=qA H4.out;have l5:=qA H5.out;have l6:=qA H6.out;have hBa:Below B w (w.alloc o):=(gJ _ w).alloc (by omega) _;rw[<- ho];obtain⟨W,hW⟩:=yM (w.alloc o);rw[<- hW]at g4 g5 g6 gn hBa ⊢;rw[ho]at gn;have c4:W.cell? ⟨a4,0,none⟩=some v4:=by rw[qg g4];rfl
 have c5:W.cell? ⟨a5,0,none⟩=some v5:=by rw[qg g5];rfl
 have c6:W.cell? ⟨a6,0,none⟩=some v6:=by rw[qg g6];rfl
 have e0:W.cell? ⟨w.heap.size,0,none⟩=some (.int .i64 k):=by rw[qg gn];rfl
 have e1:W.cell? ⟨w.heap.size,1,none⟩=some (.int .i64 c):=by rw[qg gn];rfl
 have f4:W.frozen? ⟨a4,0,none⟩=false:=qB g4 0;have f5:W.frozen? ⟨a5,0,none⟩=false:=qB g5 0;have f6:W.frozen? ⟨a6,0,none⟩=false:=qB g6 0;have n1:a4≠w.heap.size:=by omega
 have n2:a5≠w.heap.size:=by omega
 have n3:a6≠w.heap.size:=by omega
 have HBA:=qe hBa;have G4:=qe g4;have G5:=qe g5;have G6:=qe g6;clear g4 g5 g6 gn hBa hW ho
 go_region
 have k4:(((W.setCell ⟨a4,0,none⟩ (.pointer none)).setCell ⟨a5,0,none⟩ (.int .i64 k)).setCell ⟨a6,0,none⟩ (.int .i64 c)).drew.cell? ⟨a4,0,none⟩=some (.pointer none):=(qg (zB (zB (qC G4.out 0 (.pointer none)) (a:=⟨a5,0,none⟩) n45 _) (a:=⟨a6,0,none⟩) n46 _) 0).trans rfl;have k5:(((W.setCell ⟨a4,0,none⟩ (.pointer none)).setCell ⟨a5,0,none⟩ (.int .i64 k)).setCell ⟨a6,0,none⟩ (.int .i64 c)).drew.cell? ⟨a5,0,none⟩=some (.int .i64 k):=(qg (zB (qC (zB G5.out (a:=⟨a4,0,none⟩) (Ne.symm n45) _) 0 (.int .i64 k)) (a:=⟨a6,0,none⟩) n56 _) 0).trans rfl;have k6:(((W.setCell ⟨a4,0,none⟩ (.pointer none)).setCell ⟨a5,0,none⟩ (.int .i64 k)).setCell ⟨a6,0,none⟩ (.int .i64 c)).drew.cell? ⟨a6,0,none⟩=some (.int .i64 c):=(qg (qC (zB (zB G6.out (a:=⟨a4,0,none⟩) (Ne.symm n46) _) (a:=⟨a5,0,none⟩) (Ne.symm n56) _) 0 (.int .i64 c)) 0).trans rfl;have kB:Below B w (((W.setCell ⟨a4,0,none⟩ (.pointer none)).setCell ⟨a5,0,none⟩ (.int .i64 k)).setCell ⟨a6,0,none⟩ (.int .i64 c)).drew:=(((HBA.out.setCell b4 _).setCell b5 _).setCell b6 _).drew;have hm:=HU.out;refine(show bodyPostS Tryz.prog Tryz.f75 c₀ cs _ Exit.normal _ _ _ from ?_);exact⟨rfl,_,rfl,.tuple #[],results_none rfl _ _ _,rfl,rfl,kB,k4,k5,k6⟩
theorem catch_idle (a4 a5 a6:Nat)(w:World):
 CallsD Tryz.prog 75 #[.pointer (some ⟨a4,0,none⟩),.pointer (some ⟨a5,0,none⟩),.pointer (some ⟨a6,0,none⟩)] .returning w λe u' w'=>e= .returned (.tuple #[])/\u'= .returning/\w'=w:=by
 refine callsD_of_wpS Tryz.func75 rfl λc₀ cs hu=>?_;apply wpS_seq;apply wpS_region;simp[wpOpsS,go_sem,recoverD,hu,Tryz.ntmps75,Exit.thenS];refine wpS_of_wp ?_;have HU:=qe hu;clear hu
 have hfr:(#[Value.pointer (some { block:=a4,off:=0}),Value.pointer (some { block:=a5,off:=0}),Value.pointer (some { block:=a6,off:=0})] ++ ((Array.replicate 18 undef).setIfInBounds 3 Value.nilIface).setIfInBounds 0 Value.nilIface) =
  #[.pointer (some ⟨a4,0,none⟩),.pointer (some ⟨a5,0,none⟩),.pointer (some ⟨a6,0,none⟩),.nilIface,undef,undef,.nilIface,undef,undef,undef,undef,undef,undef,undef,undef,undef,undef,undef,undef,undef,undef]:=by kernel_rfl
 rw[hfr];clear hfr;have hn:∀W:World,(binOp BinOp.neq 20 .nilIface .nilIface).run Tryz.prog W= .ok (.bool false) W:=λ_=>by kernel_rfl
 go_wp2_with fail;have hm:=HU.out;refine⟨rfl,.returning,?_,.tuple #[],results_none rfl _ _ _,rfl,rfl,rfl⟩;rw[<- hm]
open od
namespace zn
def yG (qf:ByteArray)(l:List Rec):Option (Int×Int):=
 if qo qf=false then some (-1,1) else if 2000<l.length then some (-1,20) else match kz qf l with
  | some e=>some e
  | none=>zS qf l
end zn
theorem UI (R:Ending->World->Prop)(a:Nat)(tmps:Array Value)(k c:Int)(v4 v5 v6:Value)(w2:World)(h4:w2.heap[a]? =some (.cells #[v4] 43 (0,0)))(h5:w2.heap[a+1]? =some (.cells #[v5] 3 (0,0)))(h6:w2.heap[a+2]? =some (.cells #[v6] 47 (0,0)))
 (t4:tmps[4]?.getD undef= .pointer (some ⟨a,0,none⟩)) (t5:tmps[5]?.getD undef= .pointer (some ⟨a+1,0,none⟩)) (t6:tmps[6]?.getD undef= .pointer (some ⟨a+2,0,none⟩))
 (hR:∀w',Below a w2 w'->R (.returned (.tuple #[.pointer none,.int .i64 k,.int .i64 c])) w'):
 bodyPostD Tryz.prog Tryz.f45 R (Exit.panic [{ v:=vk k c,recovered:=false}]) { tmps:=tmps,defers:=[{ target:=Target.fn (Fn.func 75) #[.pointer (some ⟨a,0,none⟩),.pointer (some ⟨a+1,0,none⟩),.pointer (some ⟨a+2,0,none⟩)],args:=#[]}]} w2:=by
 refine leaves_cons (f:=75) (args:=#[.pointer (some ⟨a,0,none⟩),.pointer (some ⟨a+1,0,none⟩),.pointer (some ⟨a+2,0,none⟩)]) (by simp) (by simp[go_sem]) ?_;refine(catch_broken a a (a+1) (a+2) v4 v5 v6 k c w2 h4 h5 h6 (gI _) (by omega) (by omega) (by omega) (by omega) (by omega)).mono ?_;rintro e u' w'' ⟨rfl,rfl,hB,k4,k5,k6⟩;have hr:=hR w'' hB;have HR:=qe hr;clear hr hR;simp[Leaves,settle,results,Tryz.results45,go_sem,t4,t5,t6,k4,k5,k6];exact HR.out
theorem new_out (R:Ending->World->Prop)(a z:Nat)(tmps:Array Value)(W:World)(c4:W.cell? ⟨a,0,none⟩=some (.pointer (some ⟨z,0,none⟩)))(c5:W.cell? ⟨a+1,0,none⟩=some (.int .i64 0))(c6:W.cell? ⟨a+2,0,none⟩=some (.int .i64 0))
 (t4:tmps[4]?.getD undef= .pointer (some ⟨a,0,none⟩)) (t5:tmps[5]?.getD undef= .pointer (some ⟨a+1,0,none⟩)) (t6:tmps[6]?.getD undef= .pointer (some ⟨a+2,0,none⟩))
 (hR:R (.returned (.tuple #[.pointer (some ⟨z,0,none⟩),.int .i64 0,.int .i64 0])) W):
 bodyPostD Tryz.prog Tryz.f45 R Exit.ret { tmps:=tmps,defers:=[{ target:=Target.fn (Fn.func 75) #[.pointer (some ⟨a,0,none⟩),.pointer (some ⟨a+1,0,none⟩),.pointer (some ⟨a+2,0,none⟩)],args:=#[]}]} W:=by
 have HR:=qe hR;clear hR;refine leaves_cons (f:=75) (args:=#[.pointer (some ⟨a,0,none⟩),.pointer (some ⟨a+1,0,none⟩),.pointer (some ⟨a+2,0,none⟩)]) (by simp) (by simp[go_sem]) ?_;refine(catch_idle a (a+1) (a+2) W).mono ?_;rintro e u' w'' ⟨rfl,rfl,rfl⟩;simp[Leaves,settle,results,Tryz.results45,go_sem,t4,t5,t6,c4,c5,c6];exact HR.out
theorem UL (fn:Fn)(first cap:Array Value)(w:World):(Instr.makeFunc fn first cap).run Tryz.prog w= .ok (.func fn first cap) w:=rfl
theorem new_cells (w w1:World)(hw:w1=((w.alloc (.cells #[.pointer none] 43)).alloc (.cells #[.int .i64 0] 3)).alloc (.cells #[.int .i64 0] 47)):
 w1.heap[w.heap.size]? =some (.cells #[.pointer none] 43 (0,0))/\w1.heap[w.heap.size+1]? =some (.cells #[.int .i64 0] 3 (0,0))/\w1.heap[w.heap.size+2]? =some (.cells #[.int .i64 0] 47 (0,0))/\Below w.heap.size w w1:=by
 subst hw;exact⟨zi (zi (qz rfl) _) _,zi (qz (by simp)) _,qz (by simp),(((gJ _ w).alloc (gI _) _).alloc (by simp) _).alloc (by simp;omega) _⟩
theorem new_name (qf:ByteArray)(hap:qo qf=false)(rv:Value)(w:World):
 Calls Tryz.prog 45 #[.string qf,rv] w λe w'=>e= .returned (.tuple #[.pointer none,.int .i64 (-1),.int .i64 1])/\Below w.heap.size w w':=by
 obtain⟨w1,hw1⟩:=yM (((w.alloc (.cells #[.pointer none] 43)).alloc (.cells #[.int .i64 0] 3)).alloc (.cells #[.int .i64 0] 47));obtain⟨h4,h5,h6,hB1⟩:=new_cells w w1 hw1;have HAP:=qe hap;have HW1:=qe hw1;have H4:=qe h4;have H5:=qe h5;have H6:=qe h6;have HB1:=qe hB1;clear hap hw1 h4 h5 h6 hB1;have hmf:=UL
 go_enter_defers Tryz.func45,Tryz.ntmps45
 go_wp2_with fail;rw[<- HW1.out];refine(zy _ _).mono ?_;rintro e w2 ⟨rfl,hB2⟩;rw[HAP.out,Yr];go_wp2_with fail
 exact UI _ w.heap.size _ (-1) 1 (.pointer none) (.int .i64 0) (.int .i64 0) w2 ((hB2.block _ (qA H4.out)).trans H4.out) ((hB2.block _ (qA H5.out)).trans H5.out) ((hB2.block _ (qA H6.out)).trans H6.out) rfl rfl rfl
  (λw' h=>⟨rfl,(gm HB1.out hB2).trans h⟩)
namespace zn
theorem YB {bad:Nat->Bool}{n:Nat}(h:zq bad n=none):∀j,j<n->bad j=false:=λj hj=>by
 unfold zq at h;rw[List.find?_eq_none]at h;have:=h j (List.mem_range.2 hj)
 simpa using this
theorem ZC {qf:ByteArray}{l:List Rec}(h:zS qf l=none):zq (jP l) l.length=none:=by
 unfold zS at h
 split at h
 ·cases h
 ·assumption
theorem Qv {l:List Rec}(h:zq (jP l) l.length=none):l.Pairwise (λa b=>yJ a≠yJ b):=by
 rw[List.pairwise_iff_getElem];intro i j hi hj hij e;have h1:=YB h j hj;unfold jP at h1;rw[List.getElem?_eq_getElem hj]at h1;simp only[decide_eq_false_iff_not,Nat.not_lt,Nat.le_zero_eq]at h1;unfold vg at h1;have h2:=Hm h1;rw[List.filter_eq_nil_iff]at h2;have hm:l[i]∈l.take j:=by
  rw[List.mem_take_iff_getElem];exact⟨i,by omega,rfl⟩
 have:=h2 _ hm;simp[e]at this
def Uniq (l:List Rec):Prop:=∀a∈l,∀b∈l,yJ a=yJ b->a=b
theorem uniq_of {l:List Rec}(h:l.Pairwise (λa b=>yJ a≠yJ b)):Uniq l:=by
 intro a ha b hb e;obtain⟨i,hi,rfl⟩:=List.getElem_of_mem ha;obtain⟨j,hj,rfl⟩:=List.getElem_of_mem hb;rw[List.pairwise_iff_getElem]at h;rcases Nat.lt_trichotomy i j with h1 | h1 | h1
 ·exact absurd e (h i j hi hj h1)
 ·subst h1;rfl
 ·exact absurd e.symm (h j i hj hi h1)
theorem Uniq.perm {l L:List Rec}(h:Uniq l)(hp:L.Perm l):Uniq L:=λa ha b hb=>h a (hp.mem_iff.1 ha) b (hp.mem_iff.1 hb)
theorem Uniq.sub {l L:List Rec}(h:Uniq l)(hp:∀a∈L,a∈l):Uniq L:=λa ha b hb=>h a (hp a ha) b (hp b hb)
def jN (l:List Rec):Prop:=∀r∈l,qo r.owner=true
theorem level_eq {l:List Rec}(hn:jN l)(hu:Uniq l){a b:Rec}(ha:a∈l)(hb:b∈l)(h1:zY a b<=0)(h2:zY b a<=0):a=b:=by
 have h3:=(Yo.le ⟨a,hn a ha⟩ ⟨b,hn b hb⟩).1 h1;have h0:zY b a=0:=by
  have:0<=zY b a:=h3;omega
 have h4:=(orderI_zero (hn b hb) (hn a ha)).1 h0;refine hu a ha b hb ?_;unfold yJ;rw[h4.1,<- h4.2.2,h4.2.1]
end zn
theorem sorted_eq:∀(x y:List Rec),x.Perm y->x.Pairwise (λa b=>zn.zY a b<=0)->y.Pairwise (λa b=>zn.zY a b<=0)->zn.jN x->zn.Uniq x->x=y
 | [],y,hp,_,_,_,_=>by simpa using hp.symm.eq_nil
 | a :: x,[],hp,_,_,_,_=>by simpa using hp.eq_nil
 | a :: x,b :: y,hp,hx,hy,hn,he=>by
   rw[List.pairwise_cons]at hx hy;have hab:a=b:=by
    have h1:b∈a :: x:=hp.symm.mem_iff.1 (by simp);have h2:a∈b :: y:=hp.mem_iff.1 (by simp);rcases List.mem_cons.1 h1 with h1 | h1
    ·exact h1.symm
    ·rcases List.mem_cons.1 h2 with h2 | h2
     ·exact h2
     ·exact zn.level_eq hn he (by simp) (by simp[h1]) (hx.1 b h1) (hy.1 a h2)
   subst hab;rw[sorted_eq x y (List.Perm.cons_inv hp) hx.2 hy.2 (λr hr=>hn r (by simp[hr])) (he.sub λr hr=>by simp[hr])]
theorem zL.eq {l L L':List Rec}(h:zL l L)(h':zL l L')(hn:zn.jN l)(hu:zn.Uniq l):L=L':=
 sorted_eq L L' (h.1.trans h'.1.symm) h.2 h'.2 (λr hr=>hn r (h.1.mem_iff.1 hr)) (hu.perm h.1)
theorem zL.rows {l L:List Rec}(h:zL l L)(κ:Key):zL (zn.qJ l κ) (zn.qJ L κ):=⟨h.1.filter _,h.2.filter _⟩
theorem sets_take {w:World}{base sb:Nat}{dom:List Key}{F:Key->List Rec}(h:yB w base sb dom F){κ:Key}(hκ:JP κ)(hd:κ∈dom)(hne:F κ≠[]):
 ∃g cap,(Instr.lookup 114 (.map (some sb)) (Xy κ) false).run Tryz.prog w= .ok (.slice (some ⟨g,0,none⟩) (F κ).length cap) w/\
  w.ownsRow base 80 5 (.slice (some ⟨g,0,none⟩) (F κ).length cap) (F κ).length (qw (F κ))/\base<=g/\g<w.heap.size/\g≠sb/\
  ∀w' L',L'.length=(F κ).length->w.grownBy w' (some g)->w'.ownsRow base 80 5 (.slice (some ⟨g,0,none⟩) (F κ).length cap) (F κ).length (qw L')->yB w' base sb dom (λκ'=>if κ'=κ then L' else F κ'):=by
 obtain⟨val,hM,hR,hD⟩:=h;have hown:=hR κ hd;obtain⟨g,cap,hv,hb,hlt⟩:=hown.form (List.length_pos_iff.2 hne);have hrun:=Q0 keyE Tryz.underlying114 Vl hM hκ;rw[if_pos hd,hv]at hrun;have hgs:g≠sb:=λe=>hM.not_row hown (by rw[hv,e];rfl);rw[hv]at hown;refine⟨g,cap,hrun,hown,hb,hlt,hgs,λw' L' hl hg hown'=>⟨val,hM.keep λo ho=>(hg.block sb hM.lt (by simpa using Ne.symm hgs)).trans ho,λκ' hκ'=>?_,hD⟩⟩;by_cases he:κ'=κ
 ·subst he;simp only[if_true];rw[hv,hl];exact hown'
 ·simp only[if_neg he];refine(hR κ' hκ').kept hg (.inr ?_);have:=hD κ' hκ' κ hd he;rw[hv]at this;exact this
def ZoneIn (w:World)(z:Nat)(qf:ByteArray)(L:List Rec):Prop:=
 ∃(base rg cap sb tb:Nat) (l0:List Rec),l0.Perm L/\kR w z qf (.slice (some ⟨rg,0,none⟩) L.length cap) (.map (some sb)) (.map (some tb))/\
  w.ownsRow 0 80 5 (.slice (some ⟨rg,0,none⟩) L.length cap) L.length (qw L)/\yB w base sb (zn.Qu l0) (zn.qJ L)/\yo w tb (zn.U3 (qM qf).toNat l0)
def QL (w:World)(top z:Nat)(qf:ByteArray)(L:List Rec):Prop:=top<=w.heap.size/\∃w0,w0.heap.size=top/\(∀b,b<top->w.heap[b]? =w0.heap[b]?)/\ZoneIn w0 z qf L
theorem QL.new {w:World}{z:Nat}{qf:ByteArray}{L:List Rec}(h:ZoneIn w z qf L):QL w w.heap.size z qf L:=⟨gI _,w,rfl,λ_ _=>rfl,h⟩
theorem QL.below {w w':World}{top z:Nat}{qf:ByteArray}{L:List Rec}(h:QL w top z qf L)(hb:Below top w w'):QL w' top z qf L:=by
 obtain⟨h1,w0,h2,h3,h4⟩:=h;exact⟨gQ h1 hb.size,w0,h2,λb hlt=>(hb.block b hlt).trans (h3 b hlt),h4⟩
theorem QL.parts {w:World}{top z:Nat}{qf:ByteArray}{L:List Rec}(h:QL w top z qf L):ZoneIn w z qf L:=by
 obtain⟨h1,w0,h2,h3,base,rg,cap,sb,tb,l0,k1,k2,k3,k4,k5⟩:=h;subst h2;refine⟨base,rg,cap,sb,tb,l0,k1,(h3 z (qA k2)).trans k2,qm k3 λb hb=>h3 b (k3.lt b hb).2,k4.keep λb _ hlt=>h3 b hlt,k5.keep λhlt=>h3 tb hlt⟩
def ZI (qf:ByteArray)(l:List Rec)(w:World)(e:Ending)(w':World):Prop:=Below w.heap.size w w'/\match zn.yG qf l with
 | some (k,c)=>e= .returned (.tuple #[.pointer none,.int .i64 k,.int .i64 c])
 | none=>∃z L,w.heap.size<=z/\zL l L/\e= .returned (.tuple #[.pointer (some ⟨z,0,none⟩),.int .i64 0,.int .i64 0])/\QL w' w'.heap.size z qf L
theorem newE_many {qf:ByteArray}{l:List Rec}(h1:qo qf=true)(h2:2000<l.length):zn.yG qf l=some (-1,20):=by
 unfold zn.yG;rw[if_neg (by rw[h1];simp),if_pos h2]
theorem newE_plain {qf:ByteArray}{l:List Rec}{e:Int×Int}(h1:qo qf=true)(h2:¬2000<l.length)(h3:zn.kz qf l=some e):zn.yG qf l=some e:=by
 unfold zn.yG;rw[if_neg (by rw[h1];simp),if_neg h2,h3]
theorem newE_rules {qf:ByteArray}{l:List Rec}(h1:qo qf=true)(h2:¬2000<l.length)(h3:zn.kz qf l=none):zn.yG qf l=zn.zS qf l:=by
 unfold zn.yG;rw[if_neg (by rw[h1];simp),if_neg h2,h3]
theorem ZI.bad {qf:ByteArray}{l:List Rec}{w w':World}{k c:Int}(h:zn.yG qf l=some (k,c))(hB:Below w.heap.size w w'):ZI qf l w (.returned (.tuple #[.pointer none,.int .i64 k,.int .i64 c])) w':=by
 unfold ZI;rw[h];exact⟨hB,rfl⟩
theorem plain_all {qf:ByteArray}{l:List Rec}(h:zn.kz qf l=none):∀r∈l,qo r.owner=true/\zn.jT r=false/\zI r.owner qf=true:=by
 unfold zn.kz at h
 split at h
 ·cases h
 ·rename_i h1
  split at h
  ·cases h
  ·rename_i h2
   intro r hr;obtain⟨k,hk,rfl⟩:=List.getElem_of_mem hr;have a1:=zn.YB h1 k hk;have a2:=zn.YB h2 k hk;rw[zn.uP hk]at a1 a2;refine⟨?_,a1,by simpa using a2⟩;unfold zn.jT at a1;simp only[Bool.not_eq_false',gX]at a1;exact a1.1.1.1.1
theorem rules_pos {qf:ByteArray}{l:List Rec}(h:zn.zS qf l=none):0<l.length:=by
 cases l with
 | nil=>exact absurd h (by unfold zn.zS;simp[zn.zq,zn.Qi])
 | cons r l=>simp
theorem Yq {w:World}{base n size z:Nat}{v:Value}{xs:List Value}(h:w.ownsRow base 80 size v n xs)(hb:v.ownBlock=some z){qf:ByteArray}{rv sv tv:Value}:¬kR w z qf rv sv tv:=λhz=>by
 obtain⟨c,fz,hc⟩:=Lib.ownsRow_kind h z hb;unfold kR at hz;rw[hc]at hz;simp at hz
theorem yB.grownIter {w w':World}{base sb rr:Nat}{dom:List Key}{F:Key->List Rec}(h:yB w base sb dom F)(hg:w.grownBy w' (some rr))(hr:∃a b c d,w.heap[rr]? =some (.mapIter a b c d)):yB w' base sb dom F:=by
 obtain⟨a,b,c,d,hr⟩:=hr;obtain⟨val,h1,h2,h3⟩:=h;refine⟨val,h1.keep λo ho=>?_,λκ hκ=>(h2 κ hκ).kept hg (.inr λe=>?_),h3⟩
 ·obtain⟨es,cl,hm⟩:=h1.Zb;exact(hg.block sb (qA ho) (by simpa using UW hm hr (by simp))).trans ho
 ·obtain⟨c',fz,hc⟩:=Lib.ownsRow_kind (h2 κ hκ) rr e;rw[hr]at hc
  cases hc
def LoopN (w8 wr:World)(base sb tb rr:Nat)(l L:List Rec)(val:Key->Value)(c:Nat):Prop:=
 ∃done:List Key,jy Xy JP wr sb rr (zn.Qu l) val done/\yB wr base sb (zn.Qu l) (λκ=>if κ∈done then zn.qJ L κ else zn.qJ l κ)/\yo wr tb (zn.U3 c l)/\Below base w8 wr
def jk (L:List Rec)(w:World)(e:Ending)(w':World):Prop:=∃v,e= .returned v/\Below w.heap.size w w'/\w'.ownsRow w.heap.size 80 5 v L.length (qw L)
theorem uH (z:Nat)(qf:ByteArray)(rv sv tv:Value)(w:World)(hz:kR w z qf rv sv tv):
 Calls Tryz.prog 24 #[.pointer (some ⟨z,0,none⟩)] w λe w'=>e= .returned (.string qf)/\w'=w:=by
 have z0:w.cell? ⟨z,0,none⟩=some (.string qf):=by rw[qg hz];rfl
 clear hz
 go_enter Tryz.func24,Tryz.ntmps24
 go_wp2
 go_ret;exact⟨rfl,rfl⟩
theorem kH (top z:Nat)(qf:ByteArray)(L:List Rec)(hL:L.length<=2000)(w:World)(hz:QL w top z qf L):
 Calls Tryz.prog 23 #[.pointer (some ⟨z,0,none⟩)] w λe w'=>jk L w e w':=by
 obtain⟨base,rg,cap,sb,tb,l0,h1,h2,h3,h4,h5⟩:=hz.parts;have z1:w.cell? ⟨z,1,none⟩=some (.slice (some ⟨rg,0,none⟩) L.length cap):=by rw[qg h2];rfl
 have HC:=qe (kX L (by omega) _ (J6 h3) w (qF h3));clear h1 h2 h3 h4 h5 hz
 go_enter Tryz.func23,Tryz.ntmps23
 go_wp2_with fail;refine HC.out.mono ?_;rintro e w' ⟨v,rfl,hB,hown⟩;have HB:=qe hB;have HO:=qe hown;clear hB hown;go_wp2_with fail;go_ret;exact⟨v,rfl,HB.out,HO.out⟩
theorem rowsS_len (L:List Rec)(κ:Key):(zn.qJ L κ).length<=L.length:=List.length_filter_le _ _
theorem rowsS_perm {l L:List Rec}(h:l.Perm L){κ:Key}(hκ:κ∉zn.Qu l):zn.qJ L κ= []:=by
 have h1:=zn.Q9 hκ;have h2:=(h.filter λr=>decide (zn.yh r=κ)).length_eq;unfold zn.qJ at h1 ⊢;rw[h1]at h2;exact Hm h2.symm
theorem set_any (top z:Nat)(qf:ByteArray)(L:List Rec)(hL:L.length<=2000)(n:ByteArray)(t:Int)(ht:(Lit.int .i64 t).wf=true)(w:World)(hz:QL w top z qf L):
 Calls Tryz.prog 85 #[.pointer (some ⟨z,0,none⟩),.string n,.int .i64 t] w λe w'=>jk (zn.qJ L (qy n,t)) w e w':=by
 obtain⟨base,rg,cap,sb,tb,l0,h1,h2,h3,h4,h5⟩:=hz.parts;have z2:w.cell? ⟨z,2,none⟩=some (.map (some sb)):=by rw[qg h2];rfl
 obtain⟨v,hv,hown⟩:=Yi h4 (λκ hκ=>rowsS_perm h1 hκ) (κ:=(qy n,t)) ⟨YV _,ht⟩;have e1:=qh z2;have e2:=λp=>hv (gw w p) (qD w p);have hll:=rowsS_len L (qy n,t);have HO:=qe hown;clear h1 h2 h3 h4 h5 hz hv hown z2
 go_enter Tryz.func85,Tryz.ntmps85
 go_wp2_with fail;refine Qf (C:=λW=>∃p,W=gw w p) 9 (by kernel_rfl) (by kernel_rfl) (gw_draw w) ?_;simp only[List.take_succ_cons,List.take_zero,List.drop_succ_cons,List.drop_zero]
 repeat (with_reducible refine Hu (λK hK=>?_);go_simp;first | (with_reducible refine hK _ ?_;clear hK K) | (apply gW;refine⟨λ_=>?_,hK _ ?_⟩;(first | (go_at_call 101;exact qY (kU _ _)));clear hK K))
 with_reducible refine Hw ?_
 intro W hW;have hBW:Below w.heap.size w W:=by obtain⟨p,rfl⟩:=hW;exact qD _ _
 clear e1 e2 hW;have HBW:=qe hBW;have hown2:=qm HO.out λb hb=>hBW.block b (HO.out.lt b hb).2;have HC:=qe (kX (zn.qJ L (qy n,t)) (by omega) _ (J6 hown2) W (qF hown2));clear hown2 hBW;go_wp2_with fail;refine HC.out.mono ?_;rintro e w' ⟨v',rfl,hB,hown⟩;have HB:=qe hB;have HO2:=qe hown;clear hB hown;go_wp2_with fail;go_ret;exact⟨v',rfl,HBW.out.trans (HB.out.mono HBW.out.size),qK HO2.out HBW.out.size⟩
namespace zn
end zn
end Go.Proofs.YtpcmilhjpmlbpaaGreatDoor
