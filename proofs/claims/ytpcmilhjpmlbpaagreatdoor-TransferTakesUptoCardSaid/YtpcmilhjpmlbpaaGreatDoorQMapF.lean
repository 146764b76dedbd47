import Derived.Test.YtpcmilhjpmlbpaaGreatDoorQNameIt
import Derived.WideKeyEntry
import Derived.DeepKeys4
import Derived.Maps.Range
namespace Go.Proofs.YtpcmilhjpmlbpaaGreatDoor
open Go.RowKit Go.WideMaps Go.WideElems
structure KeyE (P:Program)(k:TypeId){α:Type}(zg:α->Value)(Kok:α->Prop):Prop where
 law:KeyLaw P k
 key:∀a,Kok a->∃l,keyOf P k (zg a)=some l
 inj:∀a b,zg a=zg b->a=b
def ug {α:Type}(zg:α->Value)(Kok:α->Prop)(w:World)(b:Nat)(dom:List α)(val:α->Value):Prop:=
 dom.Nodup/\(∀a∈dom,Kok a)/\∃es clock,w.heap[b]? =some (.map es clock)/\es.toList.map (λe=>(e.key,e.val))=dom.map (λa=>(zg a,val a))/\
  (∀e∈es.toList,e.born<clock)/\(es.toList.map (·.born)).Nodup
def uO {α:Type} [DecidableEq α] (dom:List α)(a:α):List α:=if a∈dom then dom else dom ++ [a]
def Ya {α:Type} [DecidableEq α] (val:α->Value)(a:α)(v:Value):α->Value:=λb=>if b=a then v else val b
section
variable {P:Program}{α:Type}{zg:α->Value}{Kok:α->Prop}{w w':World}{b:Nat}{dom:List α}{val:α->Value}{k t e:TypeId}
theorem ug.keep (h:ug zg Kok w b dom val)(hk:∀o,w.heap[b]? =some o->w'.heap[b]? =some o):ug zg Kok w' b dom val:=by
 obtain⟨h1,h2,es,c,h3,h4⟩:=h;exact⟨h1,h2,es,c,hk _ h3,h4⟩
theorem ug.lt (h:ug zg Kok w b dom val):b<w.heap.size:=by obtain⟨_,_,es,c,h1,_⟩:=h;exact qA h1
theorem ug.below {B:Nat}(h:ug zg Kok w b dom val)(hb:Below B w w')(hB:b<B):ug zg Kok w' b dom val:=h.keep λ_ ho=>(hb.block b hB).trans ho
theorem ug.made (w:World)(zg:α->Value)(Kok:α->Prop)(val:α->Value):ug zg Kok (w.alloc (.map #[] 0)) w.heap.size [] val:=
 ⟨List.nodup_nil,(λa ha=>by simp at ha),#[],0,qz rfl,rfl,(λe he=>by simp at he),List.nodup_nil⟩
theorem ug.congr {val':α->Value}(h:ug zg Kok w b dom val)(hv:∀a∈dom,val a=val' a):ug zg Kok w b dom val':=by
 obtain⟨h1,h2,es,c,h3,h4,h5⟩:=h;refine⟨h1,h2,es,c,h3,h4.trans ?_,h5⟩;exact List.map_congr_left λa ha=>by rw[hv a ha]
variable [DecidableEq α]
omit [DecidableEq α] in
theorem VF (K:KeyE P k zg Kok)(w0:World){es:Array MapEntry}(hok:∀a∈dom,Kok a)(hes:es.toList.map (λe=>(e.key,e.val))=dom.map (λa=>(zg a,val a))){a:α}(ha:Kok a):
 (a∉dom/\(Instr.findKey k (zg a) es.toList).run P w0= .ok none w0)\/
 ∃j e0,dom[j]? =some a/\es.toList[j]? =some e0/\e0.key=zg a/\e0.val=val a/\(Instr.findKey k (zg a) es.toList).run P w0= .ok (some (j,val a)) w0:=by
 obtain⟨kl,hkl⟩:=K.key a ha
 have hkeys:∀x∈es.toList,∃l,keyOf P k x.key=some l:=λx hx=>by
  have h1:(x.key,x.val)∈dom.map (λa=>(zg a,val a)):=by rw[<- hes];exact List.mem_map_of_mem (f:=λe:MapEntry=>(e.key,e.val)) hx
  obtain⟨c,hc,he⟩:=List.mem_map.1 h1;simp only[Prod.mk.injEq]at he;rw[<- he.1];exact K.key c (hok c hc)
 rcases K.law.find w0 hkl es.toList hkeys with⟨h1,h2⟩|⟨j,e0,h1,h2,h3⟩
 ·refine .inl ⟨λhm=>?_,h1⟩;have h4:(zg a,val a)∈es.toList.map (λe=>(e.key,e.val)):=by rw[hes];exact List.mem_map_of_mem (f:=λa=>(zg a,val a)) hm
  obtain⟨x,hx,he⟩:=List.mem_map.1 h4;simp only[Prod.mk.injEq]at he;exact h2 x hx he.1
 ·right;have h4:(es.toList.map (λe=>(e.key,e.val)))[j]? =some (e0.key,e0.val):=by rw[List.getElem?_map,h2];rfl
  rw[hes,List.getElem?_map]at h4
  cases hj:dom[j]? with
  | none=>rw[hj]at h4;cases h4
  | some c=>
    rw[hj]at h4;simp only[Option.map_some,gM,Prod.mk.injEq]at h4;have hc:c=a:=K.inj c a (h4.1.trans h3);subst hc;exact⟨j,e0,hj,h2,h3,h4.2.symm,by rw[h1,h4.2]⟩
theorem Q0 (K:KeyE P k zg Kok)(ht:P.underlying t=some (.map k e)){z:Value}(hz:∀w,(zeroValue e).run P w= .ok z w)(h:ug zg Kok w b dom val){a:α}(ha:Kok a):
 (Instr.lookup t (.map (some b)) (zg a) false).run P w= .ok (if a∈dom then val a else z) w:=by
 obtain⟨h1,h2,es,c,h3,h4,h5⟩:=h;obtain⟨kl,hkl⟩:=K.key a ha;rcases VF K w h2 h4 ha with⟨hn,hf⟩|⟨j,e0,hj,_,_,_,hf⟩
 ·rw[if_neg hn];simp[Instr.lookup,run_underlying ht,MapKept.run_getObj_map h3,K.law.check w _ hkl,hf,hz w]
 ·rw[if_pos (List.mem_of_getElem? hj)];simp[Instr.lookup,run_underlying ht,MapKept.run_getObj_map h3,K.law.check w _ hkl,hf]
theorem VS {es:Array MapEntry}{x:MapEntry}{clock:Nat}(hx:x.born=clock)(h1:∀e∈es.toList,e.born<clock)(h2:(es.toList.map (·.born)).Nodup):
 (∀e∈(es.push x).toList,e.born<clock+1)/\((es.push x).toList.map (·.born)).Nodup:=by
 refine⟨λe he=>?_,?_⟩
 ·rw[Array.toList_push,Hl,gY]at he;rcases he with he | rfl
  ·have:=h1 e he;omega
  ·omega
 ·simp only[Array.toList_push,List.map_append,List.map_cons,List.map_nil];refine List.nodup_append.2 ⟨h2,by simp,λa ha c hc e1=>?_⟩;simp only[gY]at hc;obtain⟨x',hx',rfl⟩:=List.mem_map.1 ha;have:=h1 x' hx';omega
omit [DecidableEq α] in
theorem J7 {a:α}(h:dom.Nodup)(hn:a∉dom):(dom ++ [a]).Nodup:=
 List.nodup_append.2 ⟨h,by simp,λx hx y hy e=>by rw[gY]at hy;subst hy;subst e;exact hn hx⟩
theorem Ju {a:α}{v:Value}(hn:a∉dom):(dom ++ [a]).map (λc=>(zg c,Ya val a v c))=dom.map (λc=>(zg c,val c)) ++ [(zg a,v)]:=by
 rw[List.map_append]
 congr 1
 ·refine List.map_congr_left λc hc=>?_;have:c≠a:=λe=>hn (e ▸ hc);simp[Ya,this]
 ·simp[Ya]
theorem Xg {a:α}{v:Value}{j:Nat}(hd:dom.Nodup)(hj:dom[j]? =some a):dom.map (λc=>(zg c,Ya val a v c))=(dom.map (λc=>(zg c,val c))).set j (zg a,v):=by
 apply List.ext_getElem?;intro i;rw[List.getElem?_map,List.getElem?_set];have hjl:j<dom.length:=(List.getElem?_eq_some_iff.1 hj).1;by_cases hij:j=i
 ·subst hij;rw[hj];simp[Ya,hjl]
 ·rw[if_neg hij,List.getElem?_map]
  cases hc:dom[i]? with
  | none=>rfl
  | some c=>
    have hne:c≠a:=λe=>by
     subst e;obtain⟨hi1,hi2⟩:=List.getElem?_eq_some_iff.1 hc;obtain⟨hj1,hj2⟩:=List.getElem?_eq_some_iff.1 hj;exact hij ((List.getElem_inj hd).1 (hj2.trans hi2.symm))
    simp[Ya,hne]
theorem K9 (K:KeyE P k zg Kok)(ht:P.underlying t=some (.map k e)){z:Value}(hz:∀w,(zeroValue e).run P w= .ok z w)(h:ug zg Kok w b dom val){a:α}(ha:Kok a):
 ∃(st:Nat) (w1:World),(Instr.mapEntry t (.map (some b)) (zg a)).run P w= .ok (.tuple #[if a∈dom then val a else z,goInt st]) w1/\w.grownBy w1 (some b)/\w1.drawn=w.drawn/\
  ug zg Kok w1 b (uO dom a) (Ya val a (if a∈dom then val a else z))/\
  ∀(w2:World) (v:Value),w2.heap[b]? =w1.heap[b]?->∃w3,(Instr.entryStore t (.map (some b)) (goInt st) v).run P w2= .ok () w3/\w2.grownBy w3 (some b)/\w3.drawn=w2.drawn/\
   ug zg Kok w3 b (uO dom a) (Ya val a v):=by
 obtain⟨h1,h2,es,clock,h3,h4,h5,h6⟩:=h;obtain⟨kl,hkl⟩:=K.key a ha;have hb:=qA h3;rcases VF K w h2 h4 ha with⟨hn,hf⟩|⟨j,e0,hj,he0,hek,hev,hf⟩
 ·have hpush:=VS (x:=⟨zg a,z,clock⟩) rfl h5 h6;refine⟨clock,uC w b (es.push ⟨zg a,z,clock⟩) (clock+1),?_,uN,rfl,?_,λw2 v hw2=>?_⟩
  ·rw[if_neg hn];simp[Instr.mapEntry,run_underlying ht,MapKept.run_getObj_map h3,K.law.check w false hkl,hf,hz,MapKept.run_setObj_map _ h3,Result.andThen,uC]
  ·rw[if_neg hn];unfold uO;rw[if_neg hn];refine⟨J7 h1 hn,λc hc=>?_,_,_,vO hb,?_,hpush⟩
   ·rcases List.mem_append.1 hc with hc | hc
    ·exact h2 c hc
    ·rw[gY]at hc;subst hc;exact ha
   ·rw[Ju hn,<- h4];simp
  ·rw[vO hb]at hw2;have hb2:=qA hw2;have hidx:(es.push ⟨zg a,z,clock⟩).findIdx? (λe=>((e.born:Nat):Int) == ((clock:Nat):Int))=some es.size:=by
    rw[findIdx_arr];exact findIdx_born (l:=(es.push ⟨zg a,z,clock⟩).toList) (j:=es.size) (e0:=⟨zg a,z,clock⟩) hpush.2 (by simp)
   have hmod:(es.push ⟨zg a,z,clock⟩).modify es.size (λe=>{ e with val:=v})=es.push ⟨zg a,v,clock⟩:=by
    apply Array.ext';rw[Array.toList_modify,Array.toList_push,Array.toList_push,<- Array.length_toList,modify_last]
   refine⟨uC w2 b (es.push ⟨zg a,v,clock⟩) (clock+1),?_,uN,rfl,?_⟩
   ·simp[Instr.entryStore,MapKept.run_getObj_map hw2,asInt,asIntOf,goInt,hidx,hmod,MapKept.run_setObj_map _ hw2,Result.andThen,uC]
   ·unfold uO;rw[if_neg hn];refine⟨J7 h1 hn,λc hc=>?_,_,_,vO hb2,?_,VS rfl h5 h6⟩
    ·rcases List.mem_append.1 hc with hc | hc
     ·exact h2 c hc
     ·rw[gY]at hc;subst hc;exact ha
    ·rw[Ju hn,<- h4];simp
 ·have hm:=List.mem_of_getElem? hj;have hj':es[j]? =some e0:=by simpa using he0
  have hsame:es.modify j (λe=>{ e with key:=zg a})=es:=by
   apply Array.ext';rw[Array.toList_modify,Go.ChangeMaps.modify_eq_set _ _ _ _ he0];have:({ e0 with key:=zg a}:MapEntry)=e0:=by rw[<- hek]
   rw[this];exact set_self _ _ _ he0
  refine⟨e0.born,uC w b es clock,?_,uN,rfl,?_,λw2 v hw2=>?_⟩
  ·rw[if_pos hm];simp[Instr.mapEntry,run_underlying ht,MapKept.run_getObj_map h3,K.law.check w false hkl,hf,hj',hek,K.law.stays w hkl,hsame,MapKept.run_setObj_map _ h3,Result.andThen,uC]
  ·unfold uO;rw[if_pos hm,if_pos hm];refine⟨h1,h2,_,_,vO hb,?_,h5,h6⟩;rw[h4];refine List.map_congr_left λc _=>?_;unfold Ya
   split
   ·rename_i hc;rw[hc]
   ·rfl
  ·rw[vO hb]at hw2;have hb2:=qA hw2;have hidx:es.findIdx? (λe=>((e.born:Nat):Int) == ((e0.born:Nat):Int))=some j:=by
    rw[findIdx_arr];exact findIdx_born h6 he0
   refine⟨uC w2 b (es.modify j λe=>{ e with val:=v}) clock,?_,uN,rfl,?_⟩
   ·simp[Instr.entryStore,MapKept.run_getObj_map hw2,asInt,asIntOf,goInt,hidx,MapKept.run_setObj_map _ hw2,Result.andThen,uC]
   ·unfold uO;rw[if_pos hm];have hl:(es.modify j λe=>{ e with val:=v}).toList=es.toList.set j { e0 with val:=v}:=by rw[Array.toList_modify,Go.ChangeMaps.modify_eq_set _ _ _ _ he0]
    have hborn:(es.toList.set j { e0 with val:=v}).map (·.born)=es.toList.map (·.born):=by
     rw[List.map_set];exact set_self _ _ _ (by rw[List.getElem?_map,he0];rfl)
    refine⟨h1,h2,_,_,vO hb2,?_,λx hx=>?_,?_⟩
    ·rw[hl,List.map_set,h4,Xg h1 hj,hek]
    ·rw[hl]at hx;have hx2:x.born∈(es.toList.set j { e0 with val:=v}).map (·.born):=List.mem_map_of_mem (f:=λe:MapEntry=>e.born) hx;rw[hborn]at hx2;obtain⟨y,hy,hyb⟩:=List.mem_map.1 hx2;rw[<- hyb];exact h5 y hy
    ·rw[hl,hborn];exact h6
theorem Xh (K:KeyE P k zg Kok)(ht:P.underlying t=some (.map k e))(h:ug zg Kok w b dom val){a:α}(ha:Kok a)(v:Value):
 ∃w1,(Instr.mapUpdate t (.map (some b)) (zg a) v).run P w= .ok () w1/\w.grownBy w1 (some b)/\w1.drawn=w.drawn/\ug zg Kok w1 b (uO dom a) (Ya val a v):=by
 obtain⟨h1,h2,es,clock,h3,h4,h5,h6⟩:=h;obtain⟨kl,hkl⟩:=K.key a ha;have hb:=qA h3;rcases VF K w h2 h4 ha with⟨hn,hf⟩|⟨j,e0,hj,he0,hek,hev,hf⟩
 ·refine⟨uC w b (es.push ⟨zg a,v,clock⟩) (clock+1),?_,uN,rfl,?_⟩
  ·simp[Instr.mapUpdate,run_underlying ht,MapKept.run_getObj_map h3,K.law.check w _ hkl,hf,MapKept.run_setObj_map _ h3,uC]
  ·unfold uO;rw[if_neg hn];refine⟨J7 h1 hn,λc hc=>?_,_,_,vO hb,?_,VS rfl h5 h6⟩
   ·rcases List.mem_append.1 hc with hc | hc
    ·exact h2 c hc
    ·rw[gY]at hc;subst hc;exact ha
   ·rw[Ju hn,<- h4];simp
 ·have hm:=List.mem_of_getElem? hj;have hj':es[j]? =some e0:=by simpa using he0
  refine⟨uC w b (es.modify j λen=>{ en with key:=zg a,val:=v}) clock,?_,uN,rfl,?_⟩
  ·simp[Instr.mapUpdate,run_underlying ht,MapKept.run_getObj_map h3,K.law.check w _ hkl,hf,hj',hek,K.law.stays w hkl,MapKept.run_setObj_map _ h3,uC]
  ·unfold uO;rw[if_pos hm];have hl:(es.modify j λen=>{ en with key:=zg a,val:=v}).toList=es.toList.set j { e0 with key:=zg a,val:=v}:=by rw[Array.toList_modify,Go.ChangeMaps.modify_eq_set _ _ _ _ he0]
   have hborn:(es.toList.set j { e0 with key:=zg a,val:=v}).map (·.born)=es.toList.map (·.born):=by
    rw[List.map_set];exact set_self _ _ _ (by rw[List.getElem?_map,he0];rfl)
   refine⟨h1,h2,_,_,vO hb,?_,λx hx=>?_,?_⟩
   ·rw[hl,List.map_set,h4,Xg h1 hj]
   ·rw[hl]at hx;have hx2:x.born∈(es.toList.set j { e0 with key:=zg a,val:=v}).map (·.born):=List.mem_map_of_mem (f:=λe:MapEntry=>e.born) hx;rw[hborn]at hx2;obtain⟨y,hy,hyb⟩:=List.mem_map.1 hx2;rw[<- hyb];exact h5 y hy
   ·rw[hl,hborn];exact h6
end
open Go.MapKept Go.ChangeMaps
def jy {α:Type}(zg:α->Value)(Kok:α->Prop)(w:World)(b r:Nat)(dom:List α)(val:α->Value)(done:List α):Prop:=
 dom.Nodup/\(∀a∈dom,Kok a)/\done.Nodup/\(∀a∈done,a∈dom)/\∃es clock since seen c0,w.heap[b]? =some (.map es clock)/\es.toList.map (λe=>(e.key,e.val))=dom.map (λa=>(zg a,val a))/\
  (∀e∈es.toList,e.born<clock)/\(es.toList.map (·.born)).Nodup/\w.heap[r]? =some (.mapIter (some b) since seen c0)/\(∀x∈es.toList,x.born<since)/\since<=c0/\since<=clock/\
  ∀(j:Nat) (e:MapEntry) (a:α),es.toList[j]? =some e->dom[j]? =some a->(seen.contains e.born=true↔a∈done)
theorem UH {α:Type} [DecidableEq α]:∀(x y:List α),x.Nodup->(∀a∈x,a∈y)->x.length<=y.length
 | [],y,_,_=>by simp
 | a :: x,y,hn,hs=>by
   rw[List.nodup_cons]at hn;have h1:=UH x (y.erase a) hn.2 (λc hc=>(List.mem_erase_of_ne (λe=>hn.1 (by rw[<- e];exact hc))).2 (hs c (by simp[hc])));have h2:=hs a (by simp);rw[List.length_erase_of_mem h2]at h1;have:=List.length_pos_of_mem h2;rw[Ha];omega
section
variable {P:Program}{α:Type}{zg:α->Value}{Kok:α->Prop}{w w':World}{b r:Nat}{dom done:List α}{val:α->Value}{k t e:TypeId}
theorem jy.map (h:jy zg Kok w b r dom val done):ug zg Kok w b dom val:=by
 obtain⟨h1,h2,_,_,es,clock,since,seen,c0,h3,h4,h5,h6,_⟩:=h;exact⟨h1,h2,es,clock,h3,h4,h5,h6⟩
theorem jy.lt (h:jy zg Kok w b r dom val done):r<w.heap.size:=by
 obtain⟨h1,h2,_,_,es,clock,since,seen,c0,h3,h4,h5,h6,h7,_⟩:=h;exact qA h7
theorem jy.ne (h:jy zg Kok w b r dom val done):r≠b:=by
 obtain⟨h1,h2,_,_,es,clock,since,seen,c0,h3,h4,h5,h6,h7,_⟩:=h;exact UW h7 h3 (by simp)
theorem jy.iterObj (h:jy zg Kok w b r dom val done):∃a b' c d,w.heap[r]? =some (.mapIter a b' c d):=by
 obtain⟨h1,h2,_,_,es,clock,since,seen,c0,h3,h4,h5,h6,h7,_⟩:=h;exact⟨_,_,_,_,h7⟩
theorem jy.keep (h:jy zg Kok w b r dom val done)(hb:w'.heap[b]? =w.heap[b]?)(hr:w'.heap[r]? =w.heap[r]?):jy zg Kok w' b r dom val done:=by
 obtain⟨h1,h2,g1,g2,es,clock,since,seen,c0,h3,h4,h5,h6,h7,rest⟩:=h;exact⟨h1,h2,g1,g2,es,clock,since,seen,c0,hb.trans h3,h4,h5,h6,hr.trans h7,rest⟩
theorem jy.grown (h:jy zg Kok w b r dom val done){row:Option Nat}(hg:w.grownBy w' row)(hb:row≠some b)(hr:row≠some r):jy zg Kok w' b r dom val done:=
 h.keep (hg.block b h.map.lt (Ne.symm hb)) (hg.block r h.lt (Ne.symm hr))
theorem jy.below (h:jy zg Kok w b r dom val done)(hb:Below w.heap.size w w'):jy zg Kok w' b r dom val done:=h.keep (hb.block b h.map.lt) (hb.block r h.lt)
theorem jy.len [DecidableEq α] (h:jy zg Kok w b r dom val done):done.length<=dom.length:=UH _ _ h.2.2.1 h.2.2.2.1
theorem rangeLeft_keep (hb:w'.heap[b]? =w.heap[b]?)(hr:w'.heap[r]? =w.heap[r]?):w'.rangeLeft b r=w.rangeLeft b r:=by
 simp only[World.rangeLeft,hb,hr]
theorem mapF_range (ht:P.underlying t=some (.map k e))(h:ug zg Kok w b dom val):
 ∃w',(Instr.range t (.map (some b))).run P w= .ok (.pointer (some ⟨w.heap.size,0,none⟩)) w'/\jy zg Kok w' b w.heap.size dom val []/\Below w.heap.size w w'/\w'.heap.size=w.heap.size+1:=by
 have hlt:=h.lt;obtain⟨h1,h2,es,clock,h3,h4,h5,h6⟩:=h;refine⟨_,run_range_map w t k e b es clock ht h3,⟨h1,h2,List.nodup_nil,by simp,es,clock,clock,#[],clock,zi h3 _,h4,h5,h6,qz rfl,h5,gI _,gI _,λj x a _ _=>by simp⟩,(gJ _ w).alloc (gI _) _,by simp⟩
theorem jy.next (h:jy zg Kok w b r dom val done)(ty:TypeId):
 ((∀a∈dom,a∈done)/\(Instr.next (.pointer (some ⟨r,0,none⟩)) false ty).run P w= .ok (.tuple #[.bool false]) w)\/
 ∃a w',a∈dom/\a∉done/\(Instr.next (.pointer (some ⟨r,0,none⟩)) false ty).run P w= .ok (.tuple #[.bool true,zg a,val a]) w'/\jy zg Kok w' b r dom val (done ++ [a])/\w.grownBy w' (some r)/\w'.heap.size=w.heap.size/\w'.rangeLeft b r<w.rangeLeft b r/\
  (Instr.entry (.pointer (some ⟨r,0,none⟩))).run P w'= .ok (.tuple #[zg a,val a]) w':=by
 have hne:=h.ne;obtain⟨h1,h2,g1,g2,es,clock,since,seen,c0,h3,h4,h5,h6,h7,h8,h9,h10,h11⟩:=h;have hlen:es.toList.length=dom.length:=by have:=congrArg List.length h4;simpa using this
 rcases run_next_at (P:=P) w ty r b since c0 seen es clock h7 h3 h8 h9 with⟨h0,hrun⟩|⟨x,hx,w1,hal,hrun⟩
 ·refine .inl ⟨λa ha=>?_,hrun⟩;obtain⟨j,hj,rfl⟩:=List.getElem_of_mem ha;have hj':j<es.toList.length:=by omega
  exact(h11 j _ _ (List.getElem?_eq_getElem hj') (List.getElem?_eq_getElem hj)).1 (all_seen es seen h0 _ (Ht hj'))
 ·obtain⟨hxm,hxs⟩:=mem_left hx;obtain⟨j,hj,hxj⟩:=List.getElem_of_mem hxm;have hj':j<dom.length:=by omega
  have hkv:(x.key,x.val)=(zg dom[j],val dom[j]):=by
   have e1:(es.toList.map (λe=>(e.key,e.val)))[j]? =(dom.map (λa=>(zg a,val a)))[j]?:=by rw[h4]
   rw[List.getElem?_map,List.getElem?_map,List.getElem?_eq_getElem hj,List.getElem?_eq_getElem hj',hxj]at e1
   simpa using e1
  have hk:x.key=zg dom[j]:=congrArg Prod.fst hkv;have hv:x.val=val dom[j]:=congrArg Prod.snd hkv
  have hnd:dom[j]∉done:=λhd=>by
   have:=(h11 j x dom[j] (by rw[List.getElem?_eq_getElem hj,hxj]) (List.getElem?_eq_getElem hj')).2 hd;rw[hxs]at this
   cases this
  have hr1:w1.heap[r]? =some (.mapIter (some b) since seen c0):=by rcases hal with rfl | rfl <;> exact h7
  have hb1:w1.heap[b]? =some (.map es clock):=by rcases hal with rfl | rfl <;> exact h3
  have hset:=MapKept.heap_set (o':=.mapIter (some b) since (seen.push x.born) clock) hr1;have hb':(setBlock w1 r (.mapIter (some b) since (seen.push x.born) clock)).heap[b]? =some (.map es clock):=(hset.2 b (λe1=>hne e1.symm)).trans hb1;refine .inr ⟨dom[j],_,Ht hj',hnd,by rw[<- hk,<- hv];exact hrun,⟨h1,h2,?_,?_,es,clock,since,seen.push x.born,clock,hb',h4,h5,h6,hset.1,h8,h10,h10,λi y a hy ha=>?_⟩,?_,?_,?_,?_⟩
  ·refine List.nodup_append.2 ⟨g1,by simp,λa ha c hc e=>?_⟩;rw[gY]at hc;exact hnd (hc ▸ e ▸ ha)
  ·intro a ha;rcases List.mem_append.1 ha with ha | ha
   ·exact g2 a ha
   ·rw[gY]at ha;exact ha ▸ Ht hj'
  ·rw[contains_push,Bool.or_eq_true,h11 i y a hy ha,Hl,gY];obtain⟨hi1,hi2⟩:=List.getElem?_eq_some_iff.1 hy;obtain⟨hi3,hi4⟩:=List.getElem?_eq_some_iff.1 ha;have hij:y.born=x.born↔a=dom[j]:=by
    have b1:(es.toList.map (·.born))[i]'(by simpa using hi1)=y.born:=by simp[<- hi2]
    have b2:(es.toList.map (·.born))[j]'(by simpa using hj)=x.born:=by simp[<- hxj]
    constructor
    ·intro e;have:=(List.getElem_inj h6).1 (b1.trans (e.trans b2.symm));subst this;exact hi4.symm
    ·intro e;have:=(List.getElem_inj h1).1 (hi4.trans e);subst this;rw[<- hi2,<- hxj]
   rw[<- hij];simp
  ·rcases hal with rfl | rfl <;> exact⟨rfl,rfl,rfl,by simp[setBlock],λi _ hi=>hset.2 i (λe1=>hi (by rw[e1]))⟩
  ·rcases hal with rfl | rfl <;> simp[setBlock]
  ·have e1:w.rangeLeft b r=(leftOf es seen).size:=by simp only[World.rangeLeft,h3,h7]
   have e2:(setBlock w1 r (.mapIter (some b) since (seen.push x.born) clock)).rangeLeft b r=(leftOf es (seen.push x.born)).size:=by
    have e3:(setBlock w1 r (.mapIter (some b) since (seen.push x.born) clock)).heap[r]? =some (.mapIter (some b) since (seen.push x.born) clock):=hset.1;simp only[World.rangeLeft,hb',e3]
   rw[e1,e2];exact left_shrinks es seen x hx
  ·rw[<- hk,<- hv];exact run_entry_at _ r b since seen es clock x hset.1 hb' hxm h6
end
end Go.Proofs.YtpcmilhjpmlbpaaGreatDoor
