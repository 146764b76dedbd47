import Derived.Test.YtpcmilhjpmlbpaaGreatDoorQZoneD
import Derived.Shelf.SlGeneric
import Derived.Shelf.SlSortCmp.WholeK
import Derived.Shelf.SlSortCmp.Whole1
import Derived.Shelf.SlSortCmp.NoneTotal
import Derived.Shelf.SlicesE.Clone
import Derived.Ground.SlsfProg
import Derived.Ground.SlgnProg
import Derived.Sort.OwnSorted
namespace Go.Proofs
open Go.Shelf
def Tryz.sortR_ren:Go.Shelf.Ren:=⟨fun | 6=>79 | 15=>126 | 14=>125 | 28=>168 | 29=>169 | 20=>160 | 21=>161 | 22=>162 | 23=>163 | 24=>164 | 25=>165 | 26=>166 | 27=>167 | 46=>181 | 47=>182 | 48=>183 | 49=>184 | 50=>185 | 57=>189 | n=>n,fun | 22=>31 | 24=>80 | 25=>138 | 3=>3 | 39=>170 | 0=>0 | 53=>71 | 55=>234 | 4=>4 | 46=>226 | 45=>225 | 50=>230 | 5=>5 | 9=>9 | 66=>251 | 70=>255 | 76=>259 | 77=>260 | n=>n,fun | n=>n⟩
theorem Tryz.sortR:Go.Proofs.SlLaysF0.n6 Tryz.prog Tryz.sortR_ren:={
 mixed:=by kernel_rfl
 f6:=⟨Tryz.f79.name,by decide,Tryz.func79.trans (congrArg some (by kernel_rfl))⟩
 f14:=⟨Tryz.f125.name,by decide,Tryz.func125.trans (congrArg some (by kernel_rfl))⟩
 f15:=Tryz.func126.trans (congrArg some (by kernel_rfl))
 f20:=⟨Tryz.f160.name,by decide,Tryz.func160.trans (congrArg some (by kernel_rfl))⟩
 f21:=⟨Tryz.f161.name,by decide,Tryz.func161.trans (congrArg some (by kernel_rfl))⟩
 f22:=⟨Tryz.f162.name,by decide,Tryz.func162.trans (congrArg some (by kernel_rfl))⟩
 f23:=⟨Tryz.f163.name,by decide,Tryz.func163.trans (congrArg some (by kernel_rfl))⟩
 f24:=⟨Tryz.f164.name,by decide,Tryz.func164.trans (congrArg some (by kernel_rfl))⟩
 f25:=⟨Tryz.f165.name,by decide,Tryz.func165.trans (congrArg some (by kernel_rfl))⟩
 f26:=⟨Tryz.f166.name,by decide,Tryz.func166.trans (congrArg some (by kernel_rfl))⟩
 f27:=⟨Tryz.f167.name,by decide,Tryz.func167.trans (congrArg some (by kernel_rfl))⟩
 f28:=Tryz.func168.trans (congrArg some (by kernel_rfl))
 f29:=Tryz.func169.trans (congrArg some (by kernel_rfl))
 f46:=⟨Tryz.f181.name,by decide,Tryz.func181.trans (congrArg some (by kernel_rfl))⟩
 f47:=Tryz.func182.trans (congrArg some (by kernel_rfl))
 f48:=Tryz.func183.trans (congrArg some (by kernel_rfl))
 f49:=⟨Tryz.f184.name,by decide,Tryz.func184.trans (congrArg some (by kernel_rfl))⟩
 f50:=⟨Tryz.f185.name,by decide,Tryz.func185.trans (congrArg some (by kernel_rfl))⟩
 f57:=⟨Tryz.f189.name,by decide,Tryz.func189.trans (congrArg some (by kernel_rfl))⟩
 t0:=Tryz.underlying0
 a0:=Tryz.isAgg0
 z0:=Tryz.sizeOf0
 v0:=Tryz.zeroValue0
 t3:=Tryz.underlying3
 a3:=Tryz.isAgg3
 z3:=Tryz.sizeOf3
 v3:=Tryz.zeroValue3
 t4:=Tryz.underlying4
 a4:=Tryz.isAgg4
 z4:=Tryz.sizeOf4
 v4:=Tryz.zeroValue4
 t5:=Tryz.underlying5
 a5:=Tryz.isAgg5
 z5:=Tryz.sizeOf5
 v5:=Tryz.zeroValue5
 t9:=Tryz.underlying9
 a9:=Tryz.isAgg9
 z9:=Tryz.sizeOf9
 v9:=Tryz.zeroValue9
 t22:=Tryz.underlying31
 a22:=Tryz.isAgg31
 z22:=Tryz.sizeOf31
 v22:=Tryz.zeroValue31
 t25:=Tryz.underlying138
 a25:=Tryz.isAgg138
 z25:=Tryz.sizeOf138
 v25:=Tryz.zeroValue138
 t39:=Tryz.underlying170
 a39:=Tryz.isAgg170
 z39:=Tryz.sizeOf170
 v39:=Tryz.zeroValue170
 t45:=Tryz.underlying225
 a45:=Tryz.isAgg225
 z45:=Tryz.sizeOf225
 v45:=Tryz.zeroValue225
 t46:=Tryz.underlying226
 a46:=Tryz.isAgg226
 z46:=Tryz.sizeOf226
 v46:=Tryz.zeroValue226
 t50:=Tryz.underlying230
 a50:=Tryz.isAgg230
 z50:=Tryz.sizeOf230
 v50:=Tryz.zeroValue230
 t53:=Tryz.underlying71
 a53:=Tryz.isAgg71
 z53:=Tryz.sizeOf71
 v53:=Tryz.zeroValue71
 t55:=Tryz.underlying234
 a55:=Tryz.isAgg234
 z55:=Tryz.sizeOf234
 v55:=Tryz.zeroValue234
 t66:=Tryz.underlying251
 a66:=Tryz.isAgg251
 z66:=Tryz.sizeOf251
 v66:=Tryz.zeroValue251
 t70:=Tryz.underlying255
 a70:=Tryz.isAgg255
 z70:=Tryz.sizeOf255
 v70:=Tryz.zeroValue255
 t76:=Tryz.underlying259
 a76:=Tryz.isAgg259
 z76:=Tryz.sizeOf259
 v76:=Tryz.zeroValue259
 t77:=Tryz.underlying260
 a77:=Tryz.isAgg260
 z77:=Tryz.sizeOf260
 v77:=Tryz.zeroValue260}
def Tryz.cloneR_ren:Go.Shelf.Ren:=⟨fun | 41=>38 | n=>n,fun | 22=>31 | 23=>80 | 4=>4 | n=>n,fun | n=>n⟩
theorem Tryz.cloneR:Go.Proofs.SlLaysE0.n41 Tryz.prog Tryz.cloneR_ren:={
 mixed:=by kernel_rfl
 f41:=⟨Tryz.f38.name,by decide,Tryz.func38.trans (congrArg some (by kernel_rfl))⟩
 t4:=Tryz.underlying4
 a4:=Tryz.isAgg4
 z4:=Tryz.sizeOf4
 v4:=Tryz.zeroValue4
 t22:=Tryz.underlying31
 a22:=Tryz.isAgg31
 z22:=Tryz.sizeOf31
 v22:=Tryz.zeroValue31}
def Tryz.cloneQ_ren:Go.Shelf.Ren:=⟨fun | 41=>37 | n=>n,fun | 22=>30 | 23=>78 | 4=>4 | n=>n,fun | n=>n⟩
theorem Tryz.cloneQ:Go.Proofs.SlLaysE0.n41 Tryz.prog Tryz.cloneQ_ren:={
 mixed:=by kernel_rfl
 f41:=⟨Tryz.f37.name,by decide,Tryz.func37.trans (congrArg some (by kernel_rfl))⟩
 t4:=Tryz.underlying4
 a4:=Tryz.isAgg4
 z4:=Tryz.sizeOf4
 v4:=Tryz.zeroValue4
 t22:=Tryz.underlying30
 a22:=Tryz.isAgg30
 z22:=Tryz.sizeOf30
 v22:=Tryz.zeroValue30}
end Go.Proofs
namespace Go.Proofs.YtpcmilhjpmlbpaaGreatDoor
open Go.RowKit Go.Shelf Go.Sort nm od
theorem callFunc_order (args:Array Value)(w:World):(callFunc 80 args).run Tryz.prog w= .ok (.enter 80 args) w:=by kernel_rfl
instance:Inhabited JN:=⟨⟨⟨⟨#[0]⟩,0,0,0,⟨#[]⟩⟩,by kernel_rfl⟩⟩
instance:Inhabited Nm:=⟨⟨⟨#[0]⟩,by kernel_rfl⟩⟩
theorem heap_putF {w:World}{g n:Nat}{os:Array Obj}{cur:Array Value}{e:TypeId}{fr:Nat×Nat}(F:Array Value)(hb:w.heap[g]? =some (.cells cur e fr)):
 (grow (putRow id (Sort.ahead w n) g 0 F) os).heap[g]? =some (.cells (putCells id 0 F cur) e fr):=by
 have hg:g<w.heap.size:=(Array.getElem?_eq_some_iff.1 hb).1;rw[heap_grow_old _ _ (by simpa using hg)];simp[putRow,mapBlock,Sort.ahead,Array.getElem?_modify,hb,onCells]
theorem grownBy_putF {w:World}{g n:Nat}{os:Array Obj}(F:Array Value):w.grownBy (grow (putRow id (Sort.ahead w n) g 0 F) os) (some g):=by
 refine⟨rfl,rfl,rfl,by simp,λk hk hne=>?_⟩;rw[heap_grow_old _ _ (by simpa using hk)];have:g≠k:=λe=>hne (by rw[e]);simp[putRow,mapBlock,Sort.ahead,Array.getElem?_modify,this]
theorem take_putF (cur F:Array Value)(h:F.size<=cur.size):(putCells id 0 F cur).toList.take F.size=F.toList:=by
 apply List.ext_getElem?;intro j;by_cases hj:j<F.size
 ·rw[List.getElem?_take_of_lt hj,Array.getElem?_toList];simp[putCells,hj,show j<cur.size by omega]
 ·rw[List.getElem?_take_eq_none (by omega),List.getElem?_eq_none (by simp;omega)]
theorem ownsRow_putF {w:World}{base g cap n k size:Nat}{e:TypeId}{os:Array Obj}{xs:List Value}(F:Array Value)(hF:F.size=n*size)(h:w.ownsRow base e size (.slice (some ⟨g,0,none⟩) n cap) n xs):
 (grow (putRow id (Sort.ahead w k) g 0 F) os).ownsRow base e size (.slice (some ⟨g,0,none⟩) n cap) n F.toList:=by
 rcases h.2 with⟨h0,_⟩|⟨g',cap',cur,hv,hb,hg,hn,hc,hcs,ht⟩
 ·cases h0
 ·cases hv
  refine⟨by simpa using hF,.inr ⟨g,cap,_,rfl,hb,heap_putF F hg,hn,hc,by simp[putCells,hcs],?_⟩⟩;rw[<- hF];refine take_putF cur F ?_;rw[hF,hcs];exact Nat.mul_le_mul_right _ hn
theorem holds_putF {w:World}{base g cap n size:Nat}{e:TypeId}{xs:List Value}(h:w.ownsRow base e size (.slice (some ⟨g,0,none⟩) n cap) n xs):Holds id w g 0 xs.toArray:=by
 rcases h.2 with⟨h0,_⟩|⟨g',cap',cur,hv,hb,hg,hn,hc,hcs,ht⟩
 ·cases h0
 ·cases hv
  intro j hj;have hj':j<xs.length:=by simpa using hj
  refine⟨?_,by simp[World.frozen?,hg]⟩;have h1:xs[j]? =cur[j]?:=by
   rw[<- ht,List.getElem?_take,<- Array.getElem?_toList];rw[h.1]at hj';rw[if_pos hj']
  rw[Nat.zero_add,qg hg,<- h1];simp[hj']
theorem recsC_at (l:List Rec)(t:Nat)(ht:t<l.length*5):(qw l)[t]? =(recC (l[t / 5]'(by omega)))[t % 5]?:=by
 have h5:t % 5<(recC (l[t / 5]'(by omega))).length:=by show t % 5<5;omega
 have:=Vz l (t / 5) (by omega) (t % 5) _ (List.getElem?_eq_getElem h5);rw[List.getElem?_eq_getElem h5,<- this]
 congr 1
 omega
theorem flat_recs (d:Array JN):flatK (λx:JN=>recC x.1) 5 d=(qw (d.toList.map (·.1))).toArray:=by
 apply Array.ext_getElem?;intro t;by_cases ht:t<d.size*5
 ·have h1:=recsC_at (d.toList.map (·.1)) t (by simpa using ht);have h2:t / 5<d.size:=by omega
  have h3:(flatK (λx:JN=>recC x.1) 5 d)[t]? =some ((flatK (λx:JN=>recC x.1) 5 d)[t]!):=by
   rw[getElem!_pos _ t (by simpa using ht)];exact Array.getElem?_eq_getElem (by simpa using ht)
  rw[h3,get_flatK _ _ _ _ ht,List.getElem?_toArray,h1,getElem!_pos d (t / 5) h2];have h5:t % 5<(recC d[t / 5].1).length:=by show t % 5<5;omega
  simp only[List.getElem_map,Array.getElem_toList];rw[List.getElem?_eq_getElem h5,getElem!_pos (recC d[t / 5].1) (t % 5) h5]
 ·rw[Array.getElem?_eq_none (by simp;omega),Array.getElem?_eq_none (by simp[zM];omega)]
theorem permIn_all {α:Type} [Inhabited α] {d d':Array α}(h:PermIn 0 d.size d d'):d'.toList.Perm d.toList:=by
 obtain⟨h1,_,h3⟩:=h;have e1:d'.extract 0 d.size=d':=by rw[<- h1];simp
 have e2:d.extract 0 d.size=d:=by simp
 rw[e1,e2]at h3;exact h3
theorem sortedIn_all {α:Type} [Inhabited α] {c:α->α->Int}(hc:Cmp c){d:Array α}{n:Nat}(hn:n=d.size)(h:SortedIn (λa b=>decide (c a b<0)) 0 n d):d.toList.Pairwise (λa b=>c a b<=0):=by
 rw[List.pairwise_iff_getElem];intro i j hi hj hij;have hi':i<d.size:=by simpa using hi
 have hj':j<d.size:=by simpa using hj
 have h1:=h i j (gU _) hij (by omega);rw[getElem!_pos d j hj',getElem!_pos d i hi']at h1;simp only[decide_eq_false_iff_not]at h1;have:=(hc.le d[i] d[j]).2 (by omega)
 simpa using this
theorem order_grow (x y:JN)(w:World):Calls Tryz.prog 80 #[yf x.1,yf y.1] w λe w'=>e= .returned (.int .i64 (zn.zY x.1 y.1))/\∃q os',w'=grow (w.drewN q) os':=by
 have h1:=qV x.2;have h2:=qV y.2;refine(calls_val (order_any x.1 y.1 (by omega) (by omega) w)).mono ?_;rintro e w' ⟨rfl,hB,hd⟩;exact⟨rfl,KD hB hd⟩
def zL (l L:List Rec):Prop:=L.Perm l/\L.Pairwise (λa b=>zn.zY a b<=0)
theorem Uu (l:List Rec)(hl:l.length<=2000)(hok:∀r∈l,qo r.owner=true)(base g cap:Nat)(w:World)(hrow:w.ownsRow base 80 5 (.slice (some ⟨g,0,none⟩) l.length cap) l.length (qw l)):
 Calls Tryz.prog 79 #[.slice (some ⟨g,0,none⟩) l.length cap,.func (.func 80) #[] #[]] w λe w'=>
  e= .returned (.tuple #[])/\w.grownBy w' (some g)/\∃L,zL l L/\w'.ownsRow base 80 5 (.slice (some ⟨g,0,none⟩) l.length cap) l.length (qw L):=by
 obtain⟨d,hd⟩:∃d:Array JN,d=(l.attach.map λr=>(⟨r.1,hok r.1 r.2⟩:JN)).toArray:=⟨_,rfl⟩;have hdm:d.toList.map (·.1)=l:=by rw[hd];simp
 have hds:d.size=l.length:=by rw[hd];simp
 have hgl:=hrow.lt g rfl;have hflat:=flat_recs d;rw[hdm]at hflat;have hH:HoldsK (λx:JN=>recC x.1) 5 w g 0 d:=by
  unfold HoldsK;rw[hflat];exact holds_putF hrow
 have hc:=AnyQ.slices_SortFunc Tryz.sortR 5 (λw=>by kernel_rfl) (λw=>by kernel_rfl) (λx:JN=>recC x.1) (λ_=>rfl) (λx v hv=>by
  simp only[List.mem_cons,List.not_mem_nil,or_false]at hv;rcases hv with rfl | rfl | rfl | rfl | rfl <;> rfl) (λa b:JN=>zn.zY a.1 b.1) Yo.swo 80 #[] g 0 cap d w callFunc_order
  (λm os dk _ x y=>order_grow x y _) hH hgl.2 (by omega)
 rw[hds]at hc;refine hc.mono ?_;rintro e w' ⟨rfl,d',n,os,hp,hs,hw⟩;have hp':PermIn 0 d.size d d':=by rw[hds];exact hp
 have h1:=permIn_all hp';have hds':d'.size=d.size:=hp'.1;have h2:=sortedIn_all Yo (by rw[<- hds,hds']) hs;have hw2:w'=grow (putRow id (Sort.ahead w n) g 0 (qw (d'.toList.map (·.1))).toArray) os:=by
  rw[hw,<- flat_recs];rfl
 refine⟨rfl,by rw[hw2];exact grownBy_putF _,d'.toList.map (·.1),⟨?_,?_⟩,?_⟩
 ·have:=h1.map (·.1);rw[hdm]at this;exact this
 ·rw[List.pairwise_map];exact h2
 ·rw[hw2];have:=ownsRow_putF (k:=n) (os:=os) (qw (d'.toList.map (·.1))).toArray (by simp[zM,hds',hds]) hrow
  simpa using this
end Go.Proofs.YtpcmilhjpmlbpaaGreatDoor
