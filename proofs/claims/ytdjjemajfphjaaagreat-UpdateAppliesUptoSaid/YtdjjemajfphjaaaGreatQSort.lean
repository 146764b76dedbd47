import Derived.Test.YtdjjemajfphjaaaGreatProg
import Derived.Test.YtdjjemajfphjaaaGreatQZoneA
import Derived.Test.YtdjjemajfphjaaaGreatQZoneC
import Derived.Test.YtdjjemajfphjaaaGreatQDrawn
import Derived.Shelf.SlGeneric
import Derived.Shelf.SlSortCmp.WholeK
import Derived.Shelf.SlSortCmp.Whole1
import Derived.Shelf.SlSortCmp.NoneTotal
import Derived.Shelf.SlicesE.Clone
import Derived.Ground.SlsfProg
import Derived.Ground.SlgnProg
import Derived.Sort.OwnSorted
namespace Go.Proofs
open Go.Shelf
def Tryz.sortR_ren:Go.Shelf.Ren:=⟨fun | 6=>59 | 15=>118 | 14=>117 | 28=>155 | 29=>156 | 20=>147 | 21=>148 | 22=>149 | 23=>150 | 24=>151 | 25=>152 | 26=>153 | 27=>154 | 46=>167 | 47=>168 | 48=>169 | 49=>170 | 50=>171 | 57=>176 | n=>n,fun | 22=>22 | 24=>51 | 25=>100 | 3=>3 | 39=>109 | 0=>0 | 53=>85 | 55=>179 | 4=>4 | 46=>172 | 45=>171 | 50=>118 | 5=>5 | 9=>9 | 66=>199 | 70=>203 | 76=>209 | 77=>210 | n=>n,fun | n=>n⟩
theorem Tryz.sortR:Go.Proofs.SlLaysF0.n6 Tryz.prog Tryz.sortR_ren:={
 mixed:=by kernel_rfl
 f6:=⟨Tryz.f59.name,by decide,Tryz.func59.trans (congrArg some (by kernel_rfl))⟩
 f14:=⟨Tryz.f117.name,by decide,Tryz.func117.trans (congrArg some (by kernel_rfl))⟩
 f15:=Tryz.func118.trans (congrArg some (by kernel_rfl))
 f20:=⟨Tryz.f147.name,by decide,Tryz.func147.trans (congrArg some (by kernel_rfl))⟩
 f21:=⟨Tryz.f148.name,by decide,Tryz.func148.trans (congrArg some (by kernel_rfl))⟩
 f22:=⟨Tryz.f149.name,by decide,Tryz.func149.trans (congrArg some (by kernel_rfl))⟩
 f23:=⟨Tryz.f150.name,by decide,Tryz.func150.trans (congrArg some (by kernel_rfl))⟩
 f24:=⟨Tryz.f151.name,by decide,Tryz.func151.trans (congrArg some (by kernel_rfl))⟩
 f25:=⟨Tryz.f152.name,by decide,Tryz.func152.trans (congrArg some (by kernel_rfl))⟩
 f26:=⟨Tryz.f153.name,by decide,Tryz.func153.trans (congrArg some (by kernel_rfl))⟩
 f27:=⟨Tryz.f154.name,by decide,Tryz.func154.trans (congrArg some (by kernel_rfl))⟩
 f28:=Tryz.func155.trans (congrArg some (by kernel_rfl))
 f29:=Tryz.func156.trans (congrArg some (by kernel_rfl))
 f46:=⟨Tryz.f167.name,by decide,Tryz.func167.trans (congrArg some (by kernel_rfl))⟩
 f47:=Tryz.func168.trans (congrArg some (by kernel_rfl))
 f48:=Tryz.func169.trans (congrArg some (by kernel_rfl))
 f49:=⟨Tryz.f170.name,by decide,Tryz.func170.trans (congrArg some (by kernel_rfl))⟩
 f50:=⟨Tryz.f171.name,by decide,Tryz.func171.trans (congrArg some (by kernel_rfl))⟩
 f57:=⟨Tryz.f176.name,by decide,Tryz.func176.trans (congrArg some (by kernel_rfl))⟩
 t0:=Tryz.underlying0
 a0:=Tryz.isAgg0
 z0:=Tryz.sizeOf0
 v0:=Tryz.zeroValue0
 t3:=Tryz.underlying3
 a3:=Tryz.isAgg3
 z3:=Tryz.sizeOf3
 v3:=Tryz.zeroValue3
 t4:=Tryz.underlying4
 a4:=Tryz.isAgg4
 z4:=Tryz.sizeOf4
 v4:=Tryz.zeroValue4
 t5:=Tryz.underlying5
 a5:=Tryz.isAgg5
 z5:=Tryz.sizeOf5
 v5:=Tryz.zeroValue5
 t9:=Tryz.underlying9
 a9:=Tryz.isAgg9
 z9:=Tryz.sizeOf9
 v9:=Tryz.zeroValue9
 t22:=Tryz.underlying22
 a22:=Tryz.isAgg22
 z22:=Tryz.sizeOf22
 v22:=Tryz.zeroValue22
 t25:=Tryz.underlying100
 a25:=Tryz.isAgg100
 z25:=Tryz.sizeOf100
 v25:=Tryz.zeroValue100
 t39:=Tryz.underlying109
 a39:=Tryz.isAgg109
 z39:=Tryz.sizeOf109
 v39:=Tryz.zeroValue109
 t45:=Tryz.underlying171
 a45:=Tryz.isAgg171
 z45:=Tryz.sizeOf171
 v45:=Tryz.zeroValue171
 t46:=Tryz.underlying172
 a46:=Tryz.isAgg172
 z46:=Tryz.sizeOf172
 v46:=Tryz.zeroValue172
 t50:=Tryz.underlying118
 a50:=Tryz.isAgg118
 z50:=Tryz.sizeOf118
 v50:=Tryz.zeroValue118
 t53:=Tryz.underlying85
 a53:=Tryz.isAgg85
 z53:=Tryz.sizeOf85
 v53:=Tryz.zeroValue85
 t55:=Tryz.underlying179
 a55:=Tryz.isAgg179
 z55:=Tryz.sizeOf179
 v55:=Tryz.zeroValue179
 t66:=Tryz.underlying199
 a66:=Tryz.isAgg199
 z66:=Tryz.sizeOf199
 v66:=Tryz.zeroValue199
 t70:=Tryz.underlying203
 a70:=Tryz.isAgg203
 z70:=Tryz.sizeOf203
 v70:=Tryz.zeroValue203
 t76:=Tryz.underlying209
 a76:=Tryz.isAgg209
 z76:=Tryz.sizeOf209
 v76:=Tryz.zeroValue209
 t77:=Tryz.underlying210
 a77:=Tryz.isAgg210
 z77:=Tryz.sizeOf210
 v77:=Tryz.zeroValue210}
def Tryz.cloneR_ren:Go.Shelf.Ren:=⟨fun | 41=>53 | n=>n,fun | 22=>22 | 23=>51 | 4=>4 | n=>n,fun | n=>n⟩
theorem Tryz.cloneR:Go.Proofs.SlLaysE0.n41 Tryz.prog Tryz.cloneR_ren:={
 mixed:=by kernel_rfl
 f41:=⟨Tryz.f53.name,by decide,Tryz.func53.trans (congrArg some (by kernel_rfl))⟩
 t4:=Tryz.underlying4
 a4:=Tryz.isAgg4
 z4:=Tryz.sizeOf4
 v4:=Tryz.zeroValue4
 t22:=Tryz.underlying22
 a22:=Tryz.isAgg22
 z22:=Tryz.sizeOf22
 v22:=Tryz.zeroValue22}
def Tryz.sortS_ren:Go.Shelf.Ren:=⟨fun | 6=>162 | 15=>118 | 14=>173 | 28=>155 | 29=>156 | 20=>177 | 21=>178 | 22=>179 | 23=>180 | 24=>181 | 25=>182 | 26=>183 | 27=>184 | 46=>185 | 47=>168 | 48=>169 | 49=>186 | 50=>187 | 57=>188 | n=>n,fun | 22=>130 | 24=>9 | 25=>145 | 3=>3 | 39=>109 | 0=>0 | 53=>85 | 55=>179 | 4=>4 | 46=>172 | 45=>171 | 50=>118 | 5=>5 | 9=>9 | 66=>199 | 70=>203 | 76=>209 | 77=>210 | n=>n,fun | n=>n⟩
theorem Tryz.sortS:Go.Proofs.SlLaysF.n6 Tryz.prog Tryz.sortS_ren:={
 mixed:=by kernel_rfl
 f6:=⟨Tryz.f162.name,by decide,Tryz.func162.trans (congrArg some (by kernel_rfl))⟩
 f14:=⟨Tryz.f173.name,by decide,Tryz.func173.trans (congrArg some (by kernel_rfl))⟩
 f15:=Tryz.func118.trans (congrArg some (by kernel_rfl))
 f20:=⟨Tryz.f177.name,by decide,Tryz.func177.trans (congrArg some (by kernel_rfl))⟩
 f21:=⟨Tryz.f178.name,by decide,Tryz.func178.trans (congrArg some (by kernel_rfl))⟩
 f22:=⟨Tryz.f179.name,by decide,Tryz.func179.trans (congrArg some (by kernel_rfl))⟩
 f23:=⟨Tryz.f180.name,by decide,Tryz.func180.trans (congrArg some (by kernel_rfl))⟩
 f24:=⟨Tryz.f181.name,by decide,Tryz.func181.trans (congrArg some (by kernel_rfl))⟩
 f25:=⟨Tryz.f182.name,by decide,Tryz.func182.trans (congrArg some (by kernel_rfl))⟩
 f26:=⟨Tryz.f183.name,by decide,Tryz.func183.trans (congrArg some (by kernel_rfl))⟩
 f27:=⟨Tryz.f184.name,by decide,Tryz.func184.trans (congrArg some (by kernel_rfl))⟩
 f28:=Tryz.func155.trans (congrArg some (by kernel_rfl))
 f29:=Tryz.func156.trans (congrArg some (by kernel_rfl))
 f46:=⟨Tryz.f185.name,by decide,Tryz.func185.trans (congrArg some (by kernel_rfl))⟩
 f47:=Tryz.func168.trans (congrArg some (by kernel_rfl))
 f48:=Tryz.func169.trans (congrArg some (by kernel_rfl))
 f49:=⟨Tryz.f186.name,by decide,Tryz.func186.trans (congrArg some (by kernel_rfl))⟩
 f50:=⟨Tryz.f187.name,by decide,Tryz.func187.trans (congrArg some (by kernel_rfl))⟩
 f57:=⟨Tryz.f188.name,by decide,Tryz.func188.trans (congrArg some (by kernel_rfl))⟩
 t0:=Tryz.underlying0
 a0:=Tryz.isAgg0
 z0:=Tryz.sizeOf0
 v0:=Tryz.zeroValue0
 t3:=Tryz.underlying3
 a3:=Tryz.isAgg3
 z3:=Tryz.sizeOf3
 v3:=Tryz.zeroValue3
 t4:=Tryz.underlying4
 a4:=Tryz.isAgg4
 z4:=Tryz.sizeOf4
 v4:=Tryz.zeroValue4
 t5:=Tryz.underlying5
 a5:=Tryz.isAgg5
 z5:=Tryz.sizeOf5
 v5:=Tryz.zeroValue5
 t9:=Tryz.underlying9
 a9:=Tryz.isAgg9
 z9:=Tryz.sizeOf9
 v9:=Tryz.zeroValue9
 t22:=Tryz.underlying130
 a22:=Tryz.isAgg130
 z22:=Tryz.sizeOf130
 v22:=Tryz.zeroValue130
 a24:=Tryz.isAgg9
 z24:=Tryz.sizeOf9
 t25:=Tryz.underlying145
 a25:=Tryz.isAgg145
 z25:=Tryz.sizeOf145
 v25:=Tryz.zeroValue145
 t39:=Tryz.underlying109
 a39:=Tryz.isAgg109
 z39:=Tryz.sizeOf109
 v39:=Tryz.zeroValue109
 t45:=Tryz.underlying171
 a45:=Tryz.isAgg171
 z45:=Tryz.sizeOf171
 v45:=Tryz.zeroValue171
 t46:=Tryz.underlying172
 a46:=Tryz.isAgg172
 z46:=Tryz.sizeOf172
 v46:=Tryz.zeroValue172
 t50:=Tryz.underlying118
 a50:=Tryz.isAgg118
 z50:=Tryz.sizeOf118
 v50:=Tryz.zeroValue118
 t53:=Tryz.underlying85
 a53:=Tryz.isAgg85
 z53:=Tryz.sizeOf85
 v53:=Tryz.zeroValue85
 t55:=Tryz.underlying179
 a55:=Tryz.isAgg179
 z55:=Tryz.sizeOf179
 v55:=Tryz.zeroValue179
 t66:=Tryz.underlying199
 a66:=Tryz.isAgg199
 z66:=Tryz.sizeOf199
 v66:=Tryz.zeroValue199
 t70:=Tryz.underlying203
 a70:=Tryz.isAgg203
 z70:=Tryz.sizeOf203
 v70:=Tryz.zeroValue203
 t76:=Tryz.underlying209
 a76:=Tryz.isAgg209
 z76:=Tryz.sizeOf209
 v76:=Tryz.zeroValue209
 t77:=Tryz.underlying210
 a77:=Tryz.isAgg210
 z77:=Tryz.sizeOf210
 v77:=Tryz.zeroValue210}
def Tryz.sortS0_ren:Go.Shelf.Ren:=⟨fun | 6=>162 | 15=>118 | 14=>173 | 28=>155 | 29=>156 | 20=>177 | 21=>178 | 22=>179 | 23=>180 | 24=>181 | 25=>182 | 26=>183 | 27=>184 | 46=>185 | 47=>168 | 48=>169 | 49=>186 | 50=>187 | 57=>188 | n=>n,fun | 22=>130 | 24=>9 | 25=>145 | 3=>3 | 39=>109 | 0=>0 | 53=>85 | 55=>179 | 4=>4 | 46=>172 | 45=>171 | 50=>118 | 5=>5 | 9=>9 | 66=>199 | 70=>203 | 76=>209 | 77=>210 | n=>n,fun | n=>n⟩
theorem Tryz.sortS0:Go.Proofs.SlLaysF0.n6 Tryz.prog Tryz.sortS0_ren:={
 mixed:=by kernel_rfl
 f6:=⟨Tryz.f162.name,by decide,Tryz.func162.trans (congrArg some (by kernel_rfl))⟩
 f14:=⟨Tryz.f173.name,by decide,Tryz.func173.trans (congrArg some (by kernel_rfl))⟩
 f15:=Tryz.func118.trans (congrArg some (by kernel_rfl))
 f20:=⟨Tryz.f177.name,by decide,Tryz.func177.trans (congrArg some (by kernel_rfl))⟩
 f21:=⟨Tryz.f178.name,by decide,Tryz.func178.trans (congrArg some (by kernel_rfl))⟩
 f22:=⟨Tryz.f179.name,by decide,Tryz.func179.trans (congrArg some (by kernel_rfl))⟩
 f23:=⟨Tryz.f180.name,by decide,Tryz.func180.trans (congrArg some (by kernel_rfl))⟩
 f24:=⟨Tryz.f181.name,by decide,Tryz.func181.trans (congrArg some (by kernel_rfl))⟩
 f25:=⟨Tryz.f182.name,by decide,Tryz.func182.trans (congrArg some (by kernel_rfl))⟩
 f26:=⟨Tryz.f183.name,by decide,Tryz.func183.trans (congrArg some (by kernel_rfl))⟩
 f27:=⟨Tryz.f184.name,by decide,Tryz.func184.trans (congrArg some (by kernel_rfl))⟩
 f28:=Tryz.func155.trans (congrArg some (by kernel_rfl))
 f29:=Tryz.func156.trans (congrArg some (by kernel_rfl))
 f46:=⟨Tryz.f185.name,by decide,Tryz.func185.trans (congrArg some (by kernel_rfl))⟩
 f47:=Tryz.func168.trans (congrArg some (by kernel_rfl))
 f48:=Tryz.func169.trans (congrArg some (by kernel_rfl))
 f49:=⟨Tryz.f186.name,by decide,Tryz.func186.trans (congrArg some (by kernel_rfl))⟩
 f50:=⟨Tryz.f187.name,by decide,Tryz.func187.trans (congrArg some (by kernel_rfl))⟩
 f57:=⟨Tryz.f188.name,by decide,Tryz.func188.trans (congrArg some (by kernel_rfl))⟩
 t0:=Tryz.underlying0
 a0:=Tryz.isAgg0
 z0:=Tryz.sizeOf0
 v0:=Tryz.zeroValue0
 t3:=Tryz.underlying3
 a3:=Tryz.isAgg3
 z3:=Tryz.sizeOf3
 v3:=Tryz.zeroValue3
 t4:=Tryz.underlying4
 a4:=Tryz.isAgg4
 z4:=Tryz.sizeOf4
 v4:=Tryz.zeroValue4
 t5:=Tryz.underlying5
 a5:=Tryz.isAgg5
 z5:=Tryz.sizeOf5
 v5:=Tryz.zeroValue5
 t9:=Tryz.underlying9
 a9:=Tryz.isAgg9
 z9:=Tryz.sizeOf9
 v9:=Tryz.zeroValue9
 t22:=Tryz.underlying130
 a22:=Tryz.isAgg130
 z22:=Tryz.sizeOf130
 v22:=Tryz.zeroValue130
 t25:=Tryz.underlying145
 a25:=Tryz.isAgg145
 z25:=Tryz.sizeOf145
 v25:=Tryz.zeroValue145
 t39:=Tryz.underlying109
 a39:=Tryz.isAgg109
 z39:=Tryz.sizeOf109
 v39:=Tryz.zeroValue109
 t45:=Tryz.underlying171
 a45:=Tryz.isAgg171
 z45:=Tryz.sizeOf171
 v45:=Tryz.zeroValue171
 t46:=Tryz.underlying172
 a46:=Tryz.isAgg172
 z46:=Tryz.sizeOf172
 v46:=Tryz.zeroValue172
 t50:=Tryz.underlying118
 a50:=Tryz.isAgg118
 z50:=Tryz.sizeOf118
 v50:=Tryz.zeroValue118
 t53:=Tryz.underlying85
 a53:=Tryz.isAgg85
 z53:=Tryz.sizeOf85
 v53:=Tryz.zeroValue85
 t55:=Tryz.underlying179
 a55:=Tryz.isAgg179
 z55:=Tryz.sizeOf179
 v55:=Tryz.zeroValue179
 t66:=Tryz.underlying199
 a66:=Tryz.isAgg199
 z66:=Tryz.sizeOf199
 v66:=Tryz.zeroValue199
 t70:=Tryz.underlying203
 a70:=Tryz.isAgg203
 z70:=Tryz.sizeOf203
 v70:=Tryz.zeroValue203
 t76:=Tryz.underlying209
 a76:=Tryz.isAgg209
 z76:=Tryz.sizeOf209
 v76:=Tryz.zeroValue209
 t77:=Tryz.underlying210
 a77:=Tryz.isAgg210
 z77:=Tryz.sizeOf210
 v77:=Tryz.zeroValue210}
end Go.Proofs
namespace Go.Proofs.YtdjjemajfphjaaaGreat
open Go.RowKit Go.Shelf Go.Sort nm od
theorem callFunc_order (args:Array Value)(w:World):(callFunc 60 args).run Tryz.prog w= .ok (.enter 60 args) w:=by kernel_rfl
theorem Vd (args:Array Value)(w:World):(callFunc 120 args).run Tryz.prog w= .ok (.enter 120 args) w:=by kernel_rfl
instance:Inhabited Jh:=⟨⟨⟨⟨#[0]⟩,0,0,0,⟨#[]⟩⟩,by kernel_rfl⟩⟩
instance:Inhabited Nm:=⟨⟨⟨#[0]⟩,by kernel_rfl⟩⟩
theorem heap_putF {w:World}{g n:Nat}{os:Array Obj}{cur:Array Value}{e:TypeId}{fr:Nat×Nat}(F:Array Value)(hb:w.heap[g]? =some (.cells cur e fr)):
 (grow (putRow id (Sort.ahead w n) g 0 F) os).heap[g]? =some (.cells (putCells id 0 F cur) e fr):=by
 have hg:g<w.heap.size:=(Array.getElem?_eq_some_iff.1 hb).1
 rw[heap_grow_old _ _ (by simpa using hg)]
 simp[putRow,mapBlock,Sort.ahead,Array.getElem?_modify,hb,onCells]
theorem Ua {w:World}{g n:Nat}{os:Array Obj}(F:Array Value):w.grownBy (grow (putRow id (Sort.ahead w n) g 0 F) os) (some g):=by
 refine⟨rfl,rfl,rfl,by simp,fun k hk hne=>?_⟩
 rw[heap_grow_old _ _ (by simpa using hk)]
 have:g≠k:=fun e=>hne (by rw[e])
 simp[putRow,mapBlock,Sort.ahead,Array.getElem?_modify,this]
theorem take_putF (cur F:Array Value)(h:F.size≤cur.size):(putCells id 0 F cur).toList.take F.size=F.toList:=by
 apply List.ext_getElem?
 intro j
 by_cases hj:j<F.size
 ·rw[List.getElem?_take_of_lt hj,Array.getElem?_toList]
  simp[putCells,hj,show j<cur.size by omega]
 ·rw[List.getElem?_take_eq_none (by omega),List.getElem?_eq_none (by simp;omega)]
theorem KO {w:World}{base g cap n k size:Nat}{e:TypeId}{os:Array Obj}{xs:List Value}(F:Array Value)(hF:F.size=n*size)(h:w.ownsRow base e size (.slice (some ⟨g,0,none⟩) n cap) n xs):
 (grow (putRow id (Sort.ahead w k) g 0 F) os).ownsRow base e size (.slice (some ⟨g,0,none⟩) n cap) n F.toList:=by
 rcases h.2 with⟨h0,_⟩|⟨g',cap',cur,hv,hb,hg,hn,hc,hcs,ht⟩
 ·cases h0
 ·cases hv
  refine⟨by simpa using hF,.inr ⟨g,cap,_,rfl,hb,heap_putF F hg,hn,hc,by simp[putCells,hcs],?_⟩⟩
  rw[← hF]
  refine take_putF cur F ?_
  rw[hF,hcs]
  exact Nat.mul_le_mul_right _ hn
theorem X8 {w:World}{base g cap n size:Nat}{e:TypeId}{xs:List Value}(h:w.ownsRow base e size (.slice (some ⟨g,0,none⟩) n cap) n xs):Holds id w g 0 xs.toArray:=by
 rcases h.2 with⟨h0,_⟩|⟨g',cap',cur,hv,hb,hg,hn,hc,hcs,ht⟩
 ·cases h0
 ·cases hv
  intro j hj
  have hj':j<xs.length:=by simpa using hj
  refine⟨?_,by simp[World.frozen?,hg]⟩
  have h1:xs[j]? =cur[j]?:=by
   rw[← ht,List.getElem?_take,← Array.getElem?_toList]
   rw[h.1]at hj'
   rw[if_pos hj']
  rw[Nat.zero_add,qg hg,← h1]
  simp[hj']
theorem recsC_at (l:List Rec)(t:Nat)(ht:t<l.length*5):(qG l)[t]? =(recC (l[t / 5]'(by omega)))[t % 5]?:=by
 have h5:t % 5<(recC (l[t / 5]'(by omega))).length:=by show t % 5<5;omega
 have:=UW l (t / 5) (by omega) (t % 5) _ (List.getElem?_eq_getElem h5)
 rw[List.getElem?_eq_getElem h5,← this]
 congr 1
 omega
theorem flat_recs (d:Array Jh):flatK (fun x:Jh=>recC x.1) 5 d=(qG (d.toList.map (·.1))).toArray:=by
 apply Array.ext_getElem?
 intro t
 by_cases ht:t<d.size*5
 ·have h1:=recsC_at (d.toList.map (·.1)) t (by simpa using ht)
  have h2:t / 5<d.size:=by omega
  have h3:(flatK (fun x:Jh=>recC x.1) 5 d)[t]? =some ((flatK (fun x:Jh=>recC x.1) 5 d)[t]!):=by
   rw[getElem!_pos _ t (by simpa using ht)]
   exact Array.getElem?_eq_getElem (by simpa using ht)
  rw[h3,get_flatK _ _ _ _ ht,List.getElem?_toArray,h1,getElem!_pos d (t / 5) h2]
  have h5:t % 5<(recC d[t / 5].1).length:=by show t % 5<5;omega
  simp only[List.getElem_map,Array.getElem_toList]
  rw[List.getElem?_eq_getElem h5,getElem!_pos (recC d[t / 5].1) (t % 5) h5]
 ·rw[Array.getElem?_eq_none (by simp;omega),Array.getElem?_eq_none (by simp[Qy];omega)]
theorem permIn_all {α:Type} [Inhabited α] {d d':Array α}(h:PermIn 0 d.size d d'):d'.toList.Perm d.toList:=by
 obtain⟨h1,_,h3⟩:=h
 have e1:d'.extract 0 d.size=d':=by rw[← h1];simp
 have e2:d.extract 0 d.size=d:=by simp
 rw[e1,e2]at h3
 exact h3
theorem KA {α:Type} [Inhabited α] {c:α→α→Int}(hc:Cmp c){d:Array α}{n:Nat}(hn:n=d.size)(h:SortedIn (fun a b=>decide (c a b<0)) 0 n d):d.toList.Pairwise (fun a b=>c a b≤0):=by
 rw[List.pairwise_iff_getElem]
 intro i j hi hj hij
 have hi':i<d.size:=by simpa using hi
 have hj':j<d.size:=by simpa using hj
 have h1:=h i j (Nat.zero_le _) hij (by omega)
 rw[getElem!_pos d j hj',getElem!_pos d i hi']at h1
 simp only[decide_eq_false_iff_not]at h1
 have:=(hc.le d[i] d[j]).2 (by omega)
 simpa using this
theorem order_grow (x y:Jh)(w:World):Calls Tryz.prog 60 #[zB x.1,zB y.1] w fun e w'=>e= .returned (.int .i64 (zn.yx x.1 y.1))∧∃q os',w'=grow (w.drewN q) os':=by
 have h1:=qP x.2;have h2:=qP y.2
 refine(Vb (order_any x.1 y.1 (by omega) (by omega) w)).mono ?_
 rintro e w' ⟨rfl,hB,hd⟩
 exact⟨rfl,Zm hB hd⟩
def zQ (l L:List Rec):Prop:=L.Perm l∧L.Pairwise (fun a b=>zn.yx a b≤0)
theorem KC (l:List Rec)(hl:l.length≤2000)(hok:∀r∈l,ql r.owner=true)(base g cap:Nat)(w:World)(hrow:w.ownsRow base 51 5 (.slice (some ⟨g,0,none⟩) l.length cap) l.length (qG l)):
 Calls Tryz.prog 59 #[.slice (some ⟨g,0,none⟩) l.length cap,.func (.func 60) #[] #[]] w fun e w'=>
  e= .returned (.tuple #[])∧w.grownBy w' (some g)∧∃L,zQ l L∧w'.ownsRow base 51 5 (.slice (some ⟨g,0,none⟩) l.length cap) l.length (qG L):=by
 obtain⟨d,hd⟩:∃d:Array Jh,d=(l.attach.map fun r=>(⟨r.1,hok r.1 r.2⟩:Jh)).toArray:=⟨_,rfl⟩
 have hdm:d.toList.map (·.1)=l:=by rw[hd];simp
 have hds:d.size=l.length:=by rw[hd];simp
 have hgl:=hrow.lt g rfl
 have hflat:=flat_recs d
 rw[hdm]at hflat
 have hH:HoldsK (fun x:Jh=>recC x.1) 5 w g 0 d:=by
  unfold HoldsK
  rw[hflat]
  exact X8 hrow
 have hc:=AnyQ.slices_SortFunc Tryz.sortR 5 (fun w=>by kernel_rfl) (fun w=>by kernel_rfl) (fun x:Jh=>recC x.1) (fun _=>rfl) (fun x v hv=>by
  simp only[List.mem_cons,List.not_mem_nil,or_false]at hv
  rcases hv with rfl | rfl | rfl | rfl | rfl <;> rfl) (fun a b:Jh=>zn.yx a.1 b.1) ZF.swo 60 #[] g 0 cap d w callFunc_order
  (fun m os dk _ x y=>order_grow x y _) hH hgl.2 (by omega)
 rw[hds]at hc
 refine hc.mono ?_
 rintro e w' ⟨rfl,d',n,os,hp,hs,hw⟩
 have hp':PermIn 0 d.size d d':=by rw[hds];exact hp
 have h1:=permIn_all hp'
 have hds':d'.size=d.size:=hp'.1
 have h2:=KA ZF (by rw[← hds,hds']) hs
 have hw2:w'=grow (putRow id (Sort.ahead w n) g 0 (qG (d'.toList.map (·.1))).toArray) os:=by
  rw[hw,← flat_recs]
  rfl
 refine⟨rfl,by rw[hw2];exact Ua _,d'.toList.map (·.1),⟨?_,?_⟩,?_⟩
 ·have:=h1.map (·.1)
  rw[hdm]at this
  exact this
 ·rw[List.pairwise_map]
  exact h2
 ·rw[hw2]
  have:=KO (k:=n) (os:=os) (qG (d'.toList.map (·.1))).toArray (by simp[Qy,hds',hds]) hrow
  simpa using this
theorem compare_grow (x y:Nm)(w:World):Calls Tryz.prog 120 #[.string x.1,.string y.1] w fun e w'=>e= .returned (.int .i64 (q8 x.1 y.1))∧∃q os',w'=grow (w.drewN q) os':=by
 refine(Vb (VE x.1 y.1 x.2 y.2 w)).mono ?_
 rintro e w' ⟨rfl,hB,hd⟩
 exact⟨rfl,Zm hB hd⟩
theorem ownsRow_putS {w:World}{base g cap n k:Nat}{e:TypeId}{os:Array Obj}{xs:List Value}{α:Type} [Inhabited α] (enc:α→Value)(d:Array α)(hd:d.size=n)(h:w.ownsRow base e 1 (.slice (some ⟨g,0,none⟩) n cap) n xs):
 (grow (putRow enc (Sort.ahead w k) g 0 d) os).ownsRow base e 1 (.slice (some ⟨g,0,none⟩) n cap) n (d.toList.map enc)∧w.grownBy (grow (putRow enc (Sort.ahead w k) g 0 d) os) (some g):=by
 have e1:putRow enc (Sort.ahead w k) g 0 d=putRow id (Sort.ahead w k) g 0 (d.map enc):=by
  unfold putRow
  congr 1
  funext c
  unfold putCells
  apply Array.ext_getElem?
  intro i
  simp only[Array.getElem?_mapIdx,Array.size_map,id]
  cases c[i]? with
  | none=>rfl
  | some v=>
    simp only[Option.map_some,Option.some.injEq]
    split
    ·rename_i h
     rw[getElem!_pos d _ (by omega),getElem!_pos (d.map enc) _ (by simp;omega)]
     simp
    ·rfl
 rw[e1]
 have h1:=KO (k:=k) (os:=os) (d.map enc) (by simpa using hd) h
 rw[Array.toList_map]at h1
 exact⟨h1,Ua _⟩
theorem sortNames_any (l:List ByteArray)(hl:l.length≤1000000)(hok:∀r∈l,ql r=true)(base g cap:Nat)(w:World)(hrow:w.ownsRow base 9 1 (.slice (some ⟨g,0,none⟩) l.length cap) l.length (l.map .string)):
 Calls Tryz.prog 162 #[.slice (some ⟨g,0,none⟩) l.length cap,.func (.func 120) #[] #[]] w fun e w'=>
  e= .returned (.tuple #[])∧w.grownBy w' (some g)∧∃L:List ByteArray,L.Perm l∧L.Pairwise (fun a b=>q8 a b≤0)∧w'.ownsRow base 9 1 (.slice (some ⟨g,0,none⟩) l.length cap) l.length (L.map .string):=by
 obtain⟨d,hd⟩:∃d:Array Nm,d=(l.attach.map fun r=>(⟨r.1,hok r.1 r.2⟩:Nm)).toArray:=⟨_,rfl⟩
 have hdm:d.toList.map (·.1)=l:=by rw[hd];simp
 have hds:d.size=l.length:=by rw[hd];simp
 have hgl:=hrow.lt g rfl
 have hH:Holds (fun x:Nm=>Value.string x.1) w g 0 d:=by
  intro j hj
  have h1:=X8 hrow j (by simpa[hds] using hj)
  refine⟨h1.1.trans ?_,h1.2⟩
  have h2:j<l.length:=by omega
  rw[getElem!_pos _ _ (by simpa using h2),getElem!_pos d j hj]
  have h3:(d.toList.map (·.1))[j]'(by simpa using hj)=l[j]:=by simp only[hdm]
  simp at h3
  simp[← h3]
 have hc:=Any.slices_SortFunc Tryz.sortS (fun x:Nm=>Value.string x.1) (fun _=>rfl) (fun a b:Nm=>q8 a.1 b.1) UZ.swo 120 #[] g 0 cap d w Vd
  (fun m os dk _ x y=>compare_grow x y _) hH hgl.2 (by omega)
 rw[hds]at hc
 refine hc.mono ?_
 rintro e w' ⟨rfl,d',n,os,hp,hs,hw⟩
 have hp':PermIn 0 d.size d d':=by rw[hds];exact hp
 have h1:=permIn_all hp'
 have hds':d'.size=d.size:=hp'.1
 have h2:=KA UZ (by rw[← hds,hds']) hs
 obtain⟨k1,k2⟩:=ownsRow_putS (k:=n) (os:=os) (fun x:Nm=>Value.string x.1) d' (by rw[hds',hds]) hrow
 refine⟨rfl,by rw[hw];exact k2,d'.toList.map (·.1),?_,?_,?_⟩
 ·have:=h1.map (·.1)
  rw[hdm]at this
  exact this
 ·rw[List.pairwise_map]
  exact h2
 ·rw[hw,List.map_map]
  exact k1
end Go.Proofs.YtdjjemajfphjaaaGreat
