import Derived.Test.YtpcmilhjpmlbpaaGreatDoorQRefA
import Derived.Deep.QuietTactic
import Derived.BigQuiet
set_option maxRecDepth 100000
set_option maxHeartbeats 4000000
namespace Go.Proofs.YtpcmilhjpmlbpaaGreatDoor
open Go.RowKit
section
variable {P:Program}(w:World)
theorem QU (base:Nat)(t ty e:TypeId)(i:TypeInfo)(z:Value)(size bytes:Nat)(ht:P.underlying t=some (.slice e))(hi:P.info? e=some i)(hz:i.zero=some z)
 (hsize:i.size=size) (hby:i.bytes=bytes) (v:Value) (n:Nat) (xs:List Value) (hown:w.ownsRow base e size v n xs)
 (a:Addr) (m c:Nat) (news:List Value) (hl:news.length=m*size) (hnews:∀j u,news[j]? =some u->w.cell? (a.add j)=some u) (h1:∀u∈news,u.oneCell'=true)
 (h63:n+m<=maxLen) (hbytes:(n+m)*bytes<=140737488355328) {v':Value} {w':World} (hr:(Builtin.append_ #[t,t] ty #[v,.slice (some a) m c]).run P w= .ok v' w'):
 ∀b,v'.ownBlock=some b->v.ownBlock=some b\/w.heap.size<=b:=by
 subst hsize;subst hby;have hsmall:n+m<=9223372036854775807:=by simp only[maxLen]at h63;omega
 have one:∀(k c':Nat) (w2:World),Result.ok (Value.slice (some ⟨w.heap.size,0,none⟩) k c') w2=Result.ok v' w'->∀b,v'.ownBlock=some b->v.ownBlock=some b\/w.heap.size<=b:=λk c' w2 h b hb=>by
  cases h
  right;simp[Value.ownBlock]at hb;omega
 rcases hown.2 with⟨rfl,rfl⟩|⟨g,cap,cur,rfl,hbg,hg,hnc,hcm,hcs,htake⟩
 ·by_cases hm:m=0
  ·subst hm;have hn:news= []:=Hm (by simpa using hl);subst hn;have h0:(Builtin.append_ #[t,t] ty #[.slice none 0 0,.slice (some a) 0 c]).run P w= .ok (.slice none 0 0) w:=by
    simp[Builtin.append_,run_underlying ht,sizeOf,typeInfo,hi,Builtin.lenOf,Builtin.firstCells,loadCells,loadCellsFrom]
   rw[h0]at hr
   cases hr
   intro b hb
   cases hb
  ·have h2:=run_append_nil (P:=P) w t ty e i z ht hi hz a m c news hl hnews (by omega) (by omega) (by have hb:=hbytes;simp only[Nat.zero_add]at hb;omega);exact one _ _ _ (h2.symm.trans hr)
 ·by_cases hroom:n+m<=cap
  ·have hmul:(n+m)*i.size<=cap*i.size:=Nat.mul_le_mul_right _ hroom;rw[Nat.add_mul,<- hl]at hmul
   have h2:=run_append_room_cells (P:=P) w t ty e i ht hi g 0 n cap a m c news hl hnews h1 hroom
    (λj hj=>by rw[qg hg];simp;omega) (λj _=>qB hg _)
   have h3:=h2.symm.trans hr
   cases h3
   intro b hb;left
   simpa[Value.ownBlock] using hb
  ·have holds:∀j u,xs[j]? =some u->w.cell? ((⟨g,0,none⟩:Addr).add j)=some u:=λj u hu=>by
    rw[Addr.add_lit,qg hg,Nat.zero_add];rw[<- htake,List.getElem?_take]at hu
    split at hu
    ·simpa using hu
    ·cases hu
   have h2:=run_append_grow (P:=P) w t ty e i z ht hi hz ⟨g,0,none⟩ n cap xs hown.1 holds a m c news hl hnews (by omega) (by omega) (growslice_fits (by omega) hbytes);exact one _ _ _ (h2.symm.trans hr)
theorem qW {ops:Array Oper}{rest:List Oper}{o:Oper}{a:Act}{Q:Exit->Act->World->Prop}(hgd:o.guard=none)(s x:Operand)(t:TypeId)
 (ho:o.op= .call { callee:=.builtin .append,args:=#[s,x],argTypes:=#[t,t]})
 (base:Nat) (e:TypeId) (i:TypeInfo) (z:Value) (size bytes:Nat) (ht:P.underlying t=some (.slice e)) (hi:P.info? e=some i) (hz:i.zero=some z)
 (hsize:i.size=size) (hby:i.bytes=bytes) (hzs:z.cells.size=size) (hsz:0<size)
 (v:Value) (n:Nat) (xs:List Value) (hs:a.eval s=v) (hown:w.ownsRow base e size v n xs)
 (ad:Addr) (m c:Nat) (news:List Value) (hx:a.eval x= .slice (some ad) m c) (hl:news.length=m*size) (hnews:∀j u,news[j]? =some u->w.cell? (ad.add j)=some u) (h1:∀u∈news,u.oneCell'=true)
 (h63:n+m<=maxLen) (hbytes:(n+m)*bytes<=140737488355328) (hbase:base<=w.heap.size)
 (h:∀v' w',w'.ownsRow base e size v' (n+m) (xs ++ news)->w.grownBy w' v.ownBlock->(∀b,v'.ownBlock=some b->v.ownBlock=some b\/w.heap.size<=b)->wpList P ops Q rest (a.put o.dst v') w'):wpList P ops Q (o :: rest) a w:=by
 obtain⟨v',w',hr,h2,h3,_⟩:=run_append_own (P:=P) w base t o.type e i z size bytes ht hi hz hsize hby hzs hsz v n xs hown ad m c news hl hnews h1 h63 hbytes hbase;have h4:=QU w base t o.type e i z size bytes ht hi hz hsize hby v n xs hown ad m c news hl hnews h1 h63 hbytes hr;refine wpList_plain hgd λK hK=>?_;unfold Oper.wp execOp;simp only[ho,resolve,invoke,builtin,Sem.run_bind,Sem.run_pure,Result.andThen_ok,List.map_toArray,List.map_cons,List.map_nil,hs,hx,hr];exact hK _ _ (h v' w' h2 h3 h4)
end
open Go.Shelf nm
open dt (Fld)
namespace dt
theorem host_at (d:ByteArray):∀(ls:List (List UInt8)) (f p:Nat) (rest:List UInt8),Zj ls->d.data.toList.drop p=zX ls ++ rest->ls.length<f->ZP d f p+1=p+(zX ls).length:=by
 intro ls
 induction ls with
 | nil=>
   intro f p rest _ h hf;have hp:d.data.toList[p]? =some 0:=by
    have:=congrArg (·[0]?) h
    simpa[zX] using this
   have hz:qN d p=0:=by unfold qN;rw[hp];rfl
   rw[JA (by omega)];simp[zX]
 | cons l ls ih=>
   intro f p rest ho h hf;obtain⟨f,rfl⟩:∃g,f=g+1:=⟨f-1,by simp at hf;omega⟩;obtain⟨h0,h1⟩:=ho l (by simp);have hn:(UInt8.ofNat l.length).toNat=l.length:=by rw[UInt8.toNat_ofNat'];omega
   have hp:d.data.toList[p]? =some (UInt8.ofNat l.length):=by
    have:=congrArg (·[0]?) h
    simpa[zX] using this
   have hz:qN d p=l.length:=by unfold qN;rw[hp];exact hn
   have hlt:p<d.size:=by
    have:=(List.getElem?_eq_some_iff.1 hp).1
    simpa using this
   have hd:d.data.toList.drop (p+1+l.length)=zX ls ++ rest:=by
    rw[<- List.drop_drop,<- List.drop_drop,h,zX];simp
   rw[Xl hlt (by omega),hz,ih f _ rest (λx hx=>ho x (by simp[hx])) hd (by simpa using hf)];simp[zX];omega
theorem host_prefix {d:ByteArray}{k:Nat}(hk:k<=d.size)(h:qo (d.extract 0 k)=true):Qc d+1=k:=by
 obtain⟨ls,hls⟩:=yO h;obtain⟨_,h2,h3,_⟩:=yc hls;have hl:=Yk hls;have hx:(d.extract 0 k).size=k:=by rw[Hq];omega
 have h4:=ku ls;have h5:=host_at d ls (d.size+1) 0 (d.data.toList.drop k) h2 (by rw[List.drop_zero,<- h3,zW];simp[List.take_append_drop]) (by omega);unfold Qc;omega
theorem hostI_hit {d:ByteArray}{k:Nat}(hk:k<=d.size)(h:qo (d.extract 0 k)=true):QJ d=k:=by
 have h1:=host_prefix hk h;unfold QJ;rw[if_neg (by omega),h1,if_pos h];omega
theorem hostI_miss {d:ByteArray}{k:Nat}(hk:d.size<k\/255<k)(h:∀j,1<=j->j<k->qo (d.extract 0 j)=false):QJ d= -1:=by
 unfold QJ
 split
 ·rfl
 ·rename_i h1
  split
  ·rename_i h2
   have h3:=qV h2;rw[Hq]at h3;rw[h (Qc d+1) (by omega) (by omega)]at h2;exact absurd h2 (by simp)
  ·rfl
theorem typesGo_more:∀(f:Nat) (r:ByteArray) (last:Int) (acc l:List Int),jd f r last acc=some l->∃t,l=acc ++ t/\(0<=last->(0:Int)∉t):=by
 intro f
 induction f with
 | zero=>intro r last acc l h;cases h
 | succ f ih=>
   intro r last acc l h;by_cases h0:r.size=0
   ·rw[Zw h0]at h
    cases h
    exact⟨[],by simp,λ_=>by simp⟩
   ·by_cases hb:um r last
    ·rw[Qg h0 hb]at h;cases h
    ·rw[QN h0 hb]at h;obtain⟨t,ht,hz⟩:=ih _ _ _ _ h;refine⟨yI r (8*qN r 1) ++ t,by rw[ht,List.append_assoc],λhl hm=>?_⟩;rcases List.mem_append.1 hm with hm | hm
     ·unfold yI at hm;obtain⟨j,_,hj⟩:=List.mem_map.1 hm;unfold um at hb;omega
     ·exact hz (by omega) hm
theorem blockL_zero {r:ByteArray}{k:Nat}(h:(0:Int)∈yI r k):(yI r k).head? =some 0:=by
 unfold yI at h ⊢;obtain⟨j,hj,h0⟩:=List.mem_map.1 h;have hj0:j=0:=by omega
 have hs:qN r 0=0:=by omega
 subst hj0;obtain⟨h1,h2⟩:=List.mem_filter.1 hj;have hk:0<k:=by simpa using h1
 obtain⟨k,rfl⟩:∃q,k=q+1:=⟨k-1,by omega⟩;rw[List.range_succ_eq_map,List.filter_cons,if_pos h2,List.map_cons,List.head?_cons,hs];rfl
theorem Un {d:ByteArray}{n:Nat}{l:List Int}(h:jd (n+1) d (-1) []=some l):l.head? =some 0↔(0:Int)∈l:=by
 constructor
 ·intro hh
  cases l with
  | nil=>cases hh
  | cons a l=>simp only[List.head?_cons,gM]at hh;subst hh;exact List.mem_cons_self ..
 ·intro hm;by_cases h0:d.size=0
  ·rw[Zw h0]at h;cases h;simp at hm
  ·by_cases hb:um d (-1)
   ·rw[Qg h0 hb]at h;cases h
   ·rw[QN h0 hb]at h;obtain⟨t,ht,hz⟩:=typesGo_more _ _ _ _ _ h;rw[List.nil_append]at ht;subst ht;have hm2:(0:Int)∈yI d (8*qN d 1):=by
     rcases List.mem_append.1 hm with hm | hm
     ·exact hm
     ·exact absurd hm (hz (by omega))
    have:=blockL_zero hm2
    cases hbl:yI d (8*qN d 1) with
    | nil=>rw[hbl]at this;cases this
    | cons a m=>rw[hbl]at this;rw[List.cons_append];exact this
def VH:Fld->UInt8
 | .num n=>if n=1 then 49 else if n=2 then 50 else 52
 | .ip4=>97
 | .ip6=>54
 | .host=>110
 | .text=>116
 | .texts=>84
 | .tail=>114
 | .JC=>104
 | .b64=>98
 | .kind=>107
 | .kinds=>75
 | .Ux=>115
 | .hash=>72
def goodF:Fld->Bool
 | .num n=>n == 1 || n == 2 || n == 4
 | _=>true
def yF (t:Int):ByteArray:=match uo t with
 | some fs=>⟨(fs.map VH).toArray⟩
 | none=>if yH t=true then⟨#[45]⟩ else⟨#[]⟩
def zR:List (Int×List Fld):=[(1,[.ip4]),(2,[.host]),(5,[.host]),(6,[.host,.host,.num 4,.num 4,.num 4,.num 4,.num 4]),(12,[.host]),(13,[.text,.text]),(15,[.num 2,.host]),(16,[.texts]),(28,[.ip6]),(33,[.num 2,.num 2,.num 2,.host]),(35,[.num 2,.num 2,.text,.text,.text,.host]),(39,[.host]),(43,[.num 2,.num 1,.num 1,.JC]),(46,[.kind,.num 1,.num 1,.num 4,.num 4,.num 4,.num 2,.host,.b64]),(47,[.host,.kinds]),(48,[.num 2,.num 1,.num 1,.b64]),(50,[.num 1,.num 1,.num 2,.Ux,.hash,.kinds]),(51,[.num 1,.num 1,.num 2,.Ux]),(257,[.num 1,.text,.tail])]
theorem form_table {t:Int}{fs:List Fld}(h:uo t=some fs):(t,fs)∈zR:=by
 unfold uo at h;by_cases h1:t=1
 ·rw[if_pos h1]at h;cases h;subst h1;simp[zR]
 rw[if_neg h1]at h;by_cases h2:t=2
 ·rw[if_pos h2]at h;cases h;subst h2;simp[zR]
 rw[if_neg h2]at h;by_cases h5:t=5
 ·rw[if_pos h5]at h;cases h;subst h5;simp[zR]
 rw[if_neg h5]at h;by_cases h6:t=6
 ·rw[if_pos h6]at h;cases h;subst h6;simp[zR]
 rw[if_neg h6]at h;by_cases h12:t=12
 ·rw[if_pos h12]at h;cases h;subst h12;simp[zR]
 rw[if_neg h12]at h;by_cases h13:t=13
 ·rw[if_pos h13]at h;cases h;subst h13;simp[zR]
 rw[if_neg h13]at h;by_cases h15:t=15
 ·rw[if_pos h15]at h;cases h;subst h15;simp[zR]
 rw[if_neg h15]at h;by_cases h16:t=16
 ·rw[if_pos h16]at h;cases h;subst h16;simp[zR]
 rw[if_neg h16]at h;by_cases h28:t=28
 ·rw[if_pos h28]at h;cases h;subst h28;simp[zR]
 rw[if_neg h28]at h;by_cases h33:t=33
 ·rw[if_pos h33]at h;cases h;subst h33;simp[zR]
 rw[if_neg h33]at h;by_cases h35:t=35
 ·rw[if_pos h35]at h;cases h;subst h35;simp[zR]
 rw[if_neg h35]at h;by_cases h39:t=39
 ·rw[if_pos h39]at h;cases h;subst h39;simp[zR]
 rw[if_neg h39]at h;by_cases h43:t=43
 ·rw[if_pos h43]at h;cases h;subst h43;simp[zR]
 rw[if_neg h43]at h;by_cases h46:t=46
 ·rw[if_pos h46]at h;cases h;subst h46;simp[zR]
 rw[if_neg h46]at h;by_cases h47:t=47
 ·rw[if_pos h47]at h;cases h;subst h47;simp[zR]
 rw[if_neg h47]at h;by_cases h48:t=48
 ·rw[if_pos h48]at h;cases h;subst h48;simp[zR]
 rw[if_neg h48]at h;by_cases h50:t=50
 ·rw[if_pos h50]at h;cases h;subst h50;simp[zR]
 rw[if_neg h50]at h;by_cases h51:t=51
 ·rw[if_pos h51]at h;cases h;subst h51;simp[zR]
 rw[if_neg h51]at h;by_cases Zr:t=257
 ·rw[if_pos Zr]at h;cases h;subst Zr;simp[zR]
 rw[if_neg Zr]at h
 cases h
theorem Yy {t:Int}{fs:List Fld}(h:uo t=some fs):fs.all goodF=true/\fs≠[]/\yH t=true/\fs.map VH≠[45]:=by
 have h1:zR.all (λp=>p.2.all goodF && !p.2.isEmpty && yH p.1 && !decide (p.2.map VH= [45]))=true:=by decide
 have:=List.all_eq_true.1 h1 _ (form_table h);simp only[gX,Bool.not_eq_true',decide_eq_false_iff_not,List.isEmpty_eq_false_iff]at this;exact⟨this.1.1.1,this.1.1.2,this.1.2,this.2⟩
end dt
theorem rform_1 (w:World):Calls Tryz.prog 99 #[.int .i64 1] w λe w'=>e= .returned (.string (dt.yF 1))/\w=w':=by
 go_enter Tryz.func99,Tryz.ntmps99
 go_wp2
 go_ret;exact⟨rfl,rfl⟩
theorem rform_2 (w:World):Calls Tryz.prog 99 #[.int .i64 2] w λe w'=>e= .returned (.string (dt.yF 2))/\w=w':=by
 go_enter Tryz.func99,Tryz.ntmps99
 go_wp2
 go_ret;exact⟨rfl,rfl⟩
theorem rform_5 (w:World):Calls Tryz.prog 99 #[.int .i64 5] w λe w'=>e= .returned (.string (dt.yF 5))/\w=w':=by
 go_enter Tryz.func99,Tryz.ntmps99
 go_wp2
 go_ret;exact⟨rfl,rfl⟩
theorem rform_12 (w:World):Calls Tryz.prog 99 #[.int .i64 12] w λe w'=>e= .returned (.string (dt.yF 12))/\w=w':=by
 go_enter Tryz.func99,Tryz.ntmps99
 go_wp2
 go_ret;exact⟨rfl,rfl⟩
theorem rform_39 (w:World):Calls Tryz.prog 99 #[.int .i64 39] w λe w'=>e= .returned (.string (dt.yF 39))/\w=w':=by
 go_enter Tryz.func99,Tryz.ntmps99
 go_wp2
 go_ret;exact⟨rfl,rfl⟩
theorem rform_6 (w:World):Calls Tryz.prog 99 #[.int .i64 6] w λe w'=>e= .returned (.string (dt.yF 6))/\w=w':=by
 go_enter Tryz.func99,Tryz.ntmps99
 go_wp2
 go_ret;exact⟨rfl,rfl⟩
theorem rform_13 (w:World):Calls Tryz.prog 99 #[.int .i64 13] w λe w'=>e= .returned (.string (dt.yF 13))/\w=w':=by
 go_enter Tryz.func99,Tryz.ntmps99
 go_wp2
 go_ret;exact⟨rfl,rfl⟩
theorem rform_15 (w:World):Calls Tryz.prog 99 #[.int .i64 15] w λe w'=>e= .returned (.string (dt.yF 15))/\w=w':=by
 go_enter Tryz.func99,Tryz.ntmps99
 go_wp2
 go_ret;exact⟨rfl,rfl⟩
theorem rform_16 (w:World):Calls Tryz.prog 99 #[.int .i64 16] w λe w'=>e= .returned (.string (dt.yF 16))/\w=w':=by
 go_enter Tryz.func99,Tryz.ntmps99
 go_wp2
 go_ret;exact⟨rfl,rfl⟩
theorem rform_28 (w:World):Calls Tryz.prog 99 #[.int .i64 28] w λe w'=>e= .returned (.string (dt.yF 28))/\w=w':=by
 go_enter Tryz.func99,Tryz.ntmps99
 go_wp2
 go_ret;exact⟨rfl,rfl⟩
theorem rform_33 (w:World):Calls Tryz.prog 99 #[.int .i64 33] w λe w'=>e= .returned (.string (dt.yF 33))/\w=w':=by
 go_enter Tryz.func99,Tryz.ntmps99
 go_wp2
 go_ret;exact⟨rfl,rfl⟩
theorem rform_35 (w:World):Calls Tryz.prog 99 #[.int .i64 35] w λe w'=>e= .returned (.string (dt.yF 35))/\w=w':=by
 go_enter Tryz.func99,Tryz.ntmps99
 go_wp2
 go_ret;exact⟨rfl,rfl⟩
theorem rform_43 (w:World):Calls Tryz.prog 99 #[.int .i64 43] w λe w'=>e= .returned (.string (dt.yF 43))/\w=w':=by
 go_enter Tryz.func99,Tryz.ntmps99
 go_wp2
 go_ret;exact⟨rfl,rfl⟩
theorem rform_46 (w:World):Calls Tryz.prog 99 #[.int .i64 46] w λe w'=>e= .returned (.string (dt.yF 46))/\w=w':=by
 go_enter Tryz.func99,Tryz.ntmps99
 go_wp2
 go_ret;exact⟨rfl,rfl⟩
theorem rform_47 (w:World):Calls Tryz.prog 99 #[.int .i64 47] w λe w'=>e= .returned (.string (dt.yF 47))/\w=w':=by
 go_enter Tryz.func99,Tryz.ntmps99
 go_wp2
 go_ret;exact⟨rfl,rfl⟩
theorem rform_48 (w:World):Calls Tryz.prog 99 #[.int .i64 48] w λe w'=>e= .returned (.string (dt.yF 48))/\w=w':=by
 go_enter Tryz.func99,Tryz.ntmps99
 go_wp2
 go_ret;exact⟨rfl,rfl⟩
theorem rform_50 (w:World):Calls Tryz.prog 99 #[.int .i64 50] w λe w'=>e= .returned (.string (dt.yF 50))/\w=w':=by
 go_enter Tryz.func99,Tryz.ntmps99
 go_wp2
 go_ret;exact⟨rfl,rfl⟩
theorem rform_51 (w:World):Calls Tryz.prog 99 #[.int .i64 51] w λe w'=>e= .returned (.string (dt.yF 51))/\w=w':=by
 go_enter Tryz.func99,Tryz.ntmps99
 go_wp2
 go_ret;exact⟨rfl,rfl⟩
theorem rform_257 (w:World):Calls Tryz.prog 99 #[.int .i64 257] w λe w'=>e= .returned (.string (dt.yF 257))/\w=w':=by
 go_enter Tryz.func99,Tryz.ntmps99
 go_wp2
 go_ret;exact⟨rfl,rfl⟩
theorem rform_no (t:Int)(h1:t≠1)(h2:t≠2)(h5:t≠5)(h12:t≠12)(h39:t≠39)(h6:t≠6)(h13:t≠13)(h15:t≠15)(h16:t≠16)(h28:t≠28)(h33:t≠33)(h35:t≠35)(h43:t≠43)(h46:t≠46)(h47:t≠47)(h48:t≠48)(h50:t≠50)(h51:t≠51)(Zr:t≠257)(w:World):Calls Tryz.prog 99 #[.int .i64 t] w λe w'=>e= .returned (.string (dt.yF t))/\w=w':=by
 have hr:dt.yF t=if dt.yH t=true then⟨#[45]⟩ else⟨#[]⟩:=by unfold dt.yF;rw[dt.formF_none h1 h2 h5 h6 h12 h13 h15 h16 h28 h33 h35 h39 h43 h46 h47 h48 h50 h51 Zr]
 have b1:(t == 1)=false:=by rw[gG];exact h1
 have b2:(t == 2)=false:=by rw[gG];exact h2
 have b5:(t == 5)=false:=by rw[gG];exact h5
 have b12:(t == 12)=false:=by rw[gG];exact h12
 have b39:(t == 39)=false:=by rw[gG];exact h39
 have b6:(t == 6)=false:=by rw[gG];exact h6
 have b13:(t == 13)=false:=by rw[gG];exact h13
 have b15:(t == 15)=false:=by rw[gG];exact h15
 have b16:(t == 16)=false:=by rw[gG];exact h16
 have b28:(t == 28)=false:=by rw[gG];exact h28
 have b33:(t == 33)=false:=by rw[gG];exact h33
 have b35:(t == 35)=false:=by rw[gG];exact h35
 have b43:(t == 43)=false:=by rw[gG];exact h43
 have b46:(t == 46)=false:=by rw[gG];exact h46
 have b47:(t == 47)=false:=by rw[gG];exact h47
 have b48:(t == 48)=false:=by rw[gG];exact h48
 have b50:(t == 50)=false:=by rw[gG];exact h50
 have b51:(t == 51)=false:=by rw[gG];exact h51
 have b257:(t == 257)=false:=by rw[gG];exact Zr
 clear h1 h2 h5 h12 h39 h6 h13 h15 h16 h28 h33 h35 h43 h46 h47 h48 h50 h51 Zr;by_cases h1:1<=t
 ·by_cases h2:t<=65535
  ·by_cases h3:t=41
   ·subst h3;have HR:=qe hr;clear hr
    go_enter Tryz.func99,Tryz.ntmps99
    go_wp2
    go_ret;exact⟨xJ (by rw[HR.out];rfl),rfl⟩
   ·have c3:(t == 41)=false:=by rw[gG];exact h3
    by_cases h4:t<128
    ·have hh:dt.yH t=true:=by simp[dt.yH,h1,h2,h3,h4]
     rw[hh,if_pos rfl]at hr;have HR:=qe hr;have HH:=qe hh;clear hr hh;have h4':t<=127:=by omega
     go_enter Tryz.func99,Tryz.ntmps99
     go_wp2
     go_ret;exact⟨xJ HR.out.symm,rfl⟩
    ·by_cases h5:t<=255
     ·have hh:dt.yH t=false:=by simp[dt.yH,h4];omega
      rw[hh]at hr;have HR:=qe hr;have HH:=qe hh;clear hr hh;have h4':128<=t:=by omega
      go_enter Tryz.func99,Tryz.ntmps99
      go_wp2
      go_ret;exact⟨xJ HR.out.symm,rfl⟩
     ·have hh:dt.yH t=true:=by simp[dt.yH,h1,h2,h3];omega
      rw[hh,if_pos rfl]at hr;have HR:=qe hr;have HH:=qe hh;clear hr hh;have h4':128<=t:=by omega
      have h5':255<t:=by omega
      go_enter Tryz.func99,Tryz.ntmps99
      go_wp2
      go_ret;exact⟨xJ HR.out.symm,rfl⟩
  ·have hh:dt.yH t=false:=by simp[dt.yH,h2]
   rw[hh]at hr;have HR:=qe hr;have HH:=qe hh;clear hr hh;have h2':65535<t:=by omega
   go_enter Tryz.func99,Tryz.ntmps99
   go_wp2
   go_ret;exact⟨xJ HR.out.symm,rfl⟩
 ·have hh:dt.yH t=false:=by simp[dt.yH,h1]
  rw[hh]at hr;have HR:=qe hr;have HH:=qe hh;clear hr hh;have h1':t<1:=by omega
  go_enter Tryz.func99,Tryz.ntmps99
  go_wp2
  go_ret;exact⟨xJ HR.out.symm,rfl⟩
theorem kg (t:Int)(w:World):Calls Tryz.prog 99 #[.int .i64 t] w λe w'=>e= .returned (.string (dt.yF t))/\w=w':=by
 by_cases h1:t=1
 ·subst h1;exact rform_1 w
 by_cases h2:t=2
 ·subst h2;exact rform_2 w
 by_cases h5:t=5
 ·subst h5;exact rform_5 w
 by_cases h12:t=12
 ·subst h12;exact rform_12 w
 by_cases h39:t=39
 ·subst h39;exact rform_39 w
 by_cases h6:t=6
 ·subst h6;exact rform_6 w
 by_cases h13:t=13
 ·subst h13;exact rform_13 w
 by_cases h15:t=15
 ·subst h15;exact rform_15 w
 by_cases h16:t=16
 ·subst h16;exact rform_16 w
 by_cases h28:t=28
 ·subst h28;exact rform_28 w
 by_cases h33:t=33
 ·subst h33;exact rform_33 w
 by_cases h35:t=35
 ·subst h35;exact rform_35 w
 by_cases h43:t=43
 ·subst h43;exact rform_43 w
 by_cases h46:t=46
 ·subst h46;exact rform_46 w
 by_cases h47:t=47
 ·subst h47;exact rform_47 w
 by_cases h48:t=48
 ·subst h48;exact rform_48 w
 by_cases h50:t=50
 ·subst h50;exact rform_50 w
 by_cases h51:t=51
 ·subst h51;exact rform_51 w
 by_cases Zr:t=257
 ·subst Zr;exact rform_257 w
 exact rform_no t h1 h2 h5 h12 h39 h6 h13 h15 h16 h28 h33 h35 h43 h46 h47 h48 h50 h51 Zr w
namespace dt
def bitI (r:ByteArray)(i:Nat):Int:=((qN r (i / 8) / 2 ^ (7-i % 8) % 2:Nat):Int)
def ZU (r:ByteArray)(k:Nat):List Int:=(List.range k).map (bitI r)
theorem bitsTo_succ (r:ByteArray)(k:Nat):ZU r (k+1)=ZU r k ++ [bitI r k]:=by unfold ZU;rw[List.range_succ,List.map_append];rfl
theorem Ug (r:ByteArray)(k:Nat):(ZU r k).length=k:=by unfold ZU;simp
theorem bitI_at {r:ByteArray}{k j M:Nat}(hj:j<8)(hM:M=128 / 2 ^ j)(hk:k<r.size):(r[k].toNat:Int) / (M:Int) % 2=bitI r (8*k+j):=by
 unfold bitI;rw[show(8*k+j) / 8=k by omega,show(8*k+j) % 8=j by omega,zF hk];have h2:M=2 ^ (7-j):=by
  subst hM
  match j,hj with
  | 0,_=>rfl
  | 1,_=>rfl
  | 2,_=>rfl
  | 3,_=>rfl
  | 4,_=>rfl
  | 5,_=>rfl
  | 6,_=>rfl
  | 7,_=>rfl
 rw[<- h2];omega
theorem half_pow {j M:Nat}(hM:M=128 / 2 ^ j):M / 2=128 / 2 ^ (j+1):=by rw[hM,Nat.div_div_eq_div_mul,Nat.pow_succ]
theorem pow_pos8 {j M:Nat}(hj:j<8)(hM:M=128 / 2 ^ j):0<M/\M<=128:=by
 subst hM
 match j,hj with
 | 0,_=>decide
 | 1,_=>decide
 | 2,_=>decide
 | 3,_=>decide
 | 4,_=>decide
 | 5,_=>decide
 | 6,_=>decide
 | 7,_=>decide
end dt
theorem rbits_any (d:ByteArray)(hd:d.size<=65535)(w:World):Calls Tryz.prog 187 #[.string d] w λe w'=>∃v,e= .returned v/\w'.ownsRow w.heap.size 3 1 v (8*d.size) ((dt.ZU d (8*d.size)).map (Value.int .i64))/\Below w.heap.size w w':=by
 obtain⟨i0,hi,hz0,hz1,hz2⟩:=info_parts info_int;have HI:=qe hi;have HZ:=qe hz0;have HZ1:=qe hz1;have HZ2:=qe hz2;clear hi hz0 hz1 hz2
 go_enter Tryz.func187,Tryz.ntmps187
 go_wp2_with fail
 go_loopw [4,3,5] (λkv v _ wr=>∃k:Nat,k<=d.size/\kv= .int .i64 (k:Int)/\wr.ownsRow w.heap.size 3 1 v (8*k) ((dt.ZU d (8*k)).map (Value.int .i64))/\Below w.heap.size w wr) (λkv _ _ _=>d.size-(intOf kv).toNat)
 case atStart=>exact⟨0,gU _,rfl,gZ _ _ _ _,gJ _ _⟩
 case round=>
  obtain⟨k,hk,rfl,hrow,hb⟩:=hrel;obtain⟨a,cap,rfl,hcap⟩:=qj hrow;have jG:=qe hrow;have HB:=qe hb;clear hrow hb;by_cases hlt:k<d.size
  ·have Xz:(d[k].toNat:Int)<256:=by have:=UInt8.toNat_lt d[k];omega
   have hge:(0:Int)<=d[k].toNat:=by omega
   go_wp2_with fail;obtain⟨wo,hwo⟩:=yM wr;subst hwo
   go_loopw [5,3] (λmv v wi=>∃j M:Nat,j<=8/\Hid (M=128 / 2 ^ j)/\mv= .int .i64 (M:Int)/\wi.ownsRow w.heap.size 3 1 v (8*k+j) ((dt.ZU d (8*k+j)).map (Value.int .i64))/\Below w.heap.size w wi) (λmv _ _=>(intOf mv).toNat)
   case atStart=>exact⟨0,128,by omega,qe rfl,rfl,jG.out,HB.out⟩
   case round=>
    obtain⟨j,M,hj,HM,rfl,hrow,hb⟩:=hrel;obtain⟨a,cap,rfl,hcap⟩:=qj hrow;have Y7:=qe hrow;have HB2:=qe hb;clear hrow hb;by_cases hj8:j<8
    ·obtain⟨m1,m2⟩:=dt.pow_pos8 hj8 HM.out;have m1':(0:Int)<(M:Int):=by omega
     have m2':(M:Int)<=128:=by omega
     have hq0:(0:Int)<=(d[k].toNat:Int) / (M:Int):=Int.ediv_nonneg hge (by omega);have hq1:(d[k].toNat:Int) / (M:Int)<256:=Int.lt_of_le_of_lt (Int.ediv_le_self _ hge) Xz;have hv:=dt.bitI_at hj8 HM.out hlt;have hs:=dt.bitsTo_succ d (8*k+j);have hln:=dt.Ug d (8*k+j);have q1:8*k+j+1<=maxLen:=by simp only[maxLen];omega
     have q2:(8*k+j+1)*8<=140737488355328:=by omega
     have hm2:=qe (dt.half_pow HM.out);have hm3:((M:Int) / 2)=((M / 2:Nat):Int):=by omega
     have HV:=qe hv;have HS:=qe hs;have HLN:=qe hln;have Q1:=qe q1;have Q2:=qe q2;have HM3:=qe hm3;clear hv hs hln q1 q2 hm3;go_wp2_with (at_builtin;refine wpList_append_own _ rfl _ _ 88 rfl w.heap.size 3 i0 (.int .i64 0) 1 8 Tryz.underlying88 HI.out HZ.out HZ1.out HZ2.out rfl (by decide) _ _ _ rfl (Y7.out.alloc _) ⟨wr.heap.size,0,none⟩ 1 1 [.int .i64 ((d[k].toNat:Int) / (M:Int) % 2)] rfl rfl (cell_one_new _ _ _) (by simp[Value.oneCell']) Q1.out Q2.out (by have:=HB2.out.size;simp;omega) ?_;intro v' w1 hown' hgrow _;have HO:=qe hown';have HG:=qe hgrow;clear hown' hgrow);rw[HM3.out]
     go_roundw
     case rel=>
      refine⟨j+1,M / 2,by omega,hm2,rfl,?_,?_⟩
      ·have h:=HO.out;rw[HV.out]at h;rw[show 8*k+(j+1)=8*k+j+1 by omega,HS.out,List.map_append];exact h
      ·refine(HB2.out.alloc HB2.out.size _).grown HG.out (by have:=HB2.out.size;simp;omega) (λj ej=>?_);exact ZN Y7.out ej
     case measure=>simp[intOf];omega
    ·obtain rfl:j=8:=by omega
     have hM0:=HM.out;obtain rfl:M=0:=by simpa using hM0
     clear hM0 HM;go_wp2_with fail
     go_roundw
     case rel=>exact⟨k+1,by omega,by go_num,by rw[show 8*(k+1)=8*k+8 by omega];exact Y7.out,HB2.out⟩
     case measure=>simp[intOf];omega
  ·obtain rfl:k=d.size:=by omega
   go_wp2_with fail;go_ret;exact⟨_,rfl,jG.out,HB.out⟩
theorem X7 (d:ByteArray)(h2:d.size<=6)(w:World):Calls Tryz.prog 97 #[.string d] w λe w'=>e= .returned (.int .i64 (dt.jO d d.size))/\w=w':=by
 go_enter Tryz.func97,Tryz.ntmps97
 go_wp2_with fail
 go_loop [4,3] (λc v=>∃k:Nat,k<=d.size/\c= .int .i64 k/\v= .int .i64 (dt.jO d k)) (λc _=>d.size-(intOf c).toNat)
 case atStart=>exact⟨0,gU _,rfl,rfl⟩
 case round=>
  obtain⟨k,hk,rfl,rfl⟩:=hrel;by_cases hlt:k<d.size
  ·have hv:dt.jO d k<256 ^ 5:=gN (dt.Um d k) (Nat.pow_le_pow_right (by omega) (by omega));have hv2:dt.jO d k<1099511627776:=gN hv (by decide);have hv3:(dt.jO d k:Int)<1099511627776:=by omega
   have hv4:(0:Int)<=(dt.jO d k:Int):=by omega
   have hs:=zF hlt;have Xz:(d[k].toNat:Int)<256:=by have:=UInt8.toNat_lt d[k];omega
   have h0:(0:Int)<=(d[k].toNat:Int):=by omega
   have hnx:(dt.jO d k:Int)*256+(d[k].toNat:Int)=(dt.jO d (k+1):Nat):=by
    rw[<- hs];show _=(((dt.jO d k*256+qN d k:Nat)):Int);omega
   have HS:=qe hs;have HV:=qe hv;have HV2:=qe hv2;have HNX:=qe hnx;clear hs hv hv2 hnx;go_wp2_with fail
   go_round
   case rel=>exact⟨k+1,by omega,by go_num,by rw[HNX.out]⟩
   case measure=>simp[intOf];omega
  ·obtain rfl:k=d.size:=by omega
   go_wp2_with fail;go_ret;exact⟨rfl,rfl⟩
def RTypes (d:ByteArray)(w:World)(e:Ending)(w':World):Prop:=Below w.heap.size w w'/\match dt.ja d with
 | some l=>∃v,e= .returned (.tuple #[v,.int .i64 0])/\w'.ownsRow w.heap.size 3 1 v l.length (l.map (Value.int .i64))
 | none=>e= .returned (.tuple #[.slice none 0 0,.int .i64 7])
theorem xQ {d:ByteArray}{w w':World}(h:dt.ja d=none)(hb:Below w.heap.size w w'):RTypes d w (.returned (.tuple #[.slice none 0 0,.int .i64 7])) w':=by
 refine⟨hb,?_⟩;rw[h]
theorem rtypes_yes {d:ByteArray}{w w':World}{l:List Int}{v:Value}(h:dt.ja d=some l)(hv:w'.ownsRow w.heap.size 3 1 v l.length (l.map (Value.int .i64)))(hb:Below w.heap.size w w'):RTypes d w (.returned (.tuple #[v,.int .i64 0])) w':=by
 refine⟨hb,?_⟩;rw[h];exact⟨v,rfl,hv⟩
theorem dt.X6 {r:ByteArray}{a b k:Nat}(_hb:b<=r.size)(hk:a+k<b):qN (r.extract a b) k=qN r (a+k):=by
 unfold qN;rw[zW,List.getElem?_take,if_pos (by omega),List.getElem?_drop]
theorem dt.bit_extract {r:ByteArray}{n k:Nat}(hn:2+n<=r.size)(hk:k<8*n):dt.bitI (r.extract 2 (2+n)) k=if dt.bitB r k=true then 1 else 0:=by
 unfold dt.bitI dt.bitB;rw[dt.X6 hn (by omega)];have h:=Nat.mod_two_eq_zero_or_one (qN r (2+k / 8) / 2 ^ (7-k % 8));rcases h with h | h <;> simp[h]
def strN:Value->Nat
 | .string s=>s.size
 | _=>0
theorem dt.bitsTo_get {r:ByteArray}{n k:Nat}(hk:k<n):(dt.ZU r n)[k]'(by rw[dt.Ug];exact hk)=dt.bitI r k:=by unfold dt.ZU;simp
theorem rtypes_any (d:ByteArray)(hd:d.size<=65535)(w:World):Calls Tryz.prog 177 #[.string d] w λe w'=>RTypes d w e w':=by
 obtain⟨i0_i,hi_i,hz_i,hz1_i,hz2_i⟩:=info_parts info_int;have HI_i:=qe hi_i;have HZ_i:=qe hz_i;have HZ1_i:=qe hz1_i;have HZ2_i:=qe hz2_i;clear hi_i hz_i hz1_i hz2_i
 go_enter Tryz.func177,Tryz.ntmps177
 go_wp2_with fail
 go_loopw [0,5,4,6,7,8,9] (λs l v _ _ _ _ wr=>∃(r:ByteArray) (f:Nat) (last:Int) (acc:List Int),r.size<=d.size/\r.size<f/\-1<=last/\last<=255/\s= .string r/\l= .int .i64 last/\
  dt.jd (d.size+1) d (-1) []=dt.jd f r last acc/\(acc.length+8*r.size<=8*d.size)/\wr.ownsRow w.heap.size 3 1 v acc.length (acc.map (Value.int .i64))/\Below w.heap.size w wr) (λs _ _ _ _ _ _ _=>strN s)
 case atStart=>exact⟨d,d.size+1,-1,[],gI _,by omega,by omega,by omega,rfl,rfl,rfl,by simp,gZ _ _ _ _,gJ _ _⟩
 case round=>
  obtain⟨r,f,last,acc,hr,hf,hl1,hl2,rfl,rfl,he,hn,hrow,hb⟩:=hrel;obtain⟨f,rfl⟩:∃g,f=g+1:=⟨f-1,by omega⟩;obtain⟨a,cap,rfl,hcap⟩:=qj hrow;have hsr:=hb.size;have HE:=qe he;have HB:=qe hb;have HR:=qe hrow;clear he hb hrow;by_cases h0:r.size=0
  ·have b0:=yR h0;have b0':(!r.toList.isEmpty)=false:=by rw[b0];rfl
   have hgo:dt.jd (d.size+1) d (-1) []=some acc:=by rw[HE.out,dt.Zw h0]
   have HGO:=qe hgo;have H0:=qe h0;clear hgo h0;go_wp2_with fail
   go_loop [78,11] (λkv _=>∃k:Nat,k<=acc.length/\kv= .int .i64 (k:Int)/\(∀j (h:j<acc.length),j<k->acc[j]≠0)) (λkv _=>acc.length-(intOf kv).toNat)
   case atStart=>exact⟨0,gU _,rfl,(λj h h'=>by omega)⟩
   case round=>
    obtain⟨k,hk,rfl,hnz⟩:=hrel;have HNZ:=qe hnz;clear hnz;by_cases hlt:k<acc.length
    ·obtain⟨g,cap',hv,_,hg⟩:=HR.out.form (by omega);simp only[gL,true_and]at hv;obtain⟨rfl,rfl⟩:=hv;have hc:=Qb HR.out k (by rw[List.length_map];exact hlt);rw[List.getElem_map]at hc;by_cases hz:acc[k]=0
     ·have bz:(acc[k] == 0)=true:=by rw[Hz];exact hz
      have hty:dt.ja d=none:=by
       unfold dt.ja;rw[HGO.out];have:acc.head? =some 0:=(dt.Un HGO.out).2 (by rw[<- hz];exact Ht _);simp only[this,if_true]
      have HTY:=qe hty;have HZ:=qe hz;clear hty hz;go_wp2_with fail;go_ret2;exact xQ HTY.out HB.out
     ·have bz:(acc[k] == 0)=false:=by rw[gG];exact hz
      have HN2:=qe (show ∀j (h:j<acc.length),j<k+1->acc[j]≠0 from λj h h'=>by
       rcases Nat.lt_or_ge j k with h'' | h''
       ·exact HNZ.out j h h''
       ·obtain rfl:j=k:=by omega
        exact hz)
      clear hz;go_wp2_with fail
      go_round
      case rel=>exact⟨k+1,by omega,by go_num,HN2.out⟩
      case measure=>simp[intOf];omega
    ·obtain rfl:k=acc.length:=by omega
     have hty:dt.ja d=some acc:=by
      unfold dt.ja;rw[HGO.out]
      have:acc.head?≠some 0:=λh=>by
       obtain⟨j,hj,h2⟩:=List.getElem_of_mem ((dt.Un HGO.out).1 h);exact HNZ.out j hj hj h2
      simp only[this,if_false]
     have HTY:=qe hty;clear hty;go_wp2_with fail;go_ret2;exact rtypes_yes HTY.out HR.out HB.out
  ·have b0:=jq h0;have b0':(!r.toList.isEmpty)=true:=by rw[b0];rfl
   by_cases k2:r.size<2
   ·have hty:dt.ja d=none:=by unfold dt.ja;rw[HE.out,dt.Qg h0 (.inl (by omega))]
    have HTY:=qe hty;have H0:=qe h0;clear hty h0;have k2':(r.size:Int)<2:=by omega
    go_wp2_with fail;go_ret2;exact xQ HTY.out HB.out
   ·have k2':(2:Int)<=(r.size:Int):=by omega
    have g0:0<r.size:=by omega
    have g1:1<r.size:=by omega
    have g0':(0:Int)<(r.size:Int):=by omega
    have g1':(1:Int)<(r.size:Int):=by omega
    have s0:=zF g0;have s1:=zF g1;have t6:(r[0].toNat:Int)<256:=by have:=UInt8.toNat_lt r[0];omega
    have t7:(r[1].toNat:Int)<256:=by have:=UInt8.toNat_lt r[1];omega
    have u6:(0:Int)<=(r[0].toNat:Int):=by omega
    have u7:(0:Int)<=(r[1].toNat:Int):=by omega
    by_cases hbad:dt.um r last
    ·have hty:dt.ja d=none:=by unfold dt.ja;rw[HE.out,dt.Qg h0 hbad]
     unfold dt.um at hbad;rw[s1,s0]at hbad;have HTY:=qe hty;have S0:=qe s0;have S1:=qe s1;have H0:=qe h0;clear hty s0 s1 h0;by_cases k4:(r[0].toNat:Int)<=last
     ·clear hbad;go_wp2_with fail
      go_quiet (fail)
      go_wp2_with fail;go_ret2;exact xQ HTY.out (JJ HB.out _)
     ·by_cases k5:(r[1].toNat:Int)<1
      ·clear hbad;go_wp2_with fail
       go_quiet (fail)
       go_wp2_with fail;go_ret2;exact xQ HTY.out (JJ HB.out _)
      ·by_cases k6:32<(r[1].toNat:Int)
       ·clear hbad;go_wp2_with fail
        go_quiet (fail)
        go_wp2_with fail;go_ret2;exact xQ HTY.out (JJ HB.out _)
       ·by_cases k7:(r.size:Int)<2+(r[1].toNat:Int)
        ·clear hbad;go_wp2_with fail
         go_quiet (fail)
         go_wp2_with fail;go_ret2;exact xQ HTY.out (JJ HB.out _)
        ·have g2:1+r[1].toNat<r.size:=by omega
         have s2:=zF g2;have b5:((r[1+r[1].toNat].toNat:Int) == 0)=true:=by rw[Hz];omega
         clear hbad s2;go_wp2_with fail
         go_quiet (fail)
         go_wp2_with fail;go_ret2;exact xQ HTY.out (JJ HB.out _)
    ·have hnext:=dt.QN (f:=f) (acc:=acc) h0 hbad;unfold dt.um at hbad;have g2:1+r[1].toNat<r.size:=by omega
     have s2:=zF g2;rw[s1]at hbad;rw[s2,s0]at hbad;have t1:last<(r[0].toNat:Int):=by omega
     have t2:(1:Int)<=(r[1].toNat:Int):=by omega
     have t3:(r[1].toNat:Int)<=32:=by omega
     have t4:(2:Int)+(r[1].toNat:Int)<=r.size:=by omega
     have t5:((r[1+r[1].toNat].toNat:Int) == 0)=false:=by rw[gG];omega
     have hx:(r.extract 2 (2+r[1].toNat)).size=r[1].toNat:=by rw[Hq];omega
     rw[s1,s0]at hnext;obtain⟨bl,hbl⟩:=yM (r[1].toNat:Nat);have hbl2:((2:Int)+(r[1].toNat:Int)).toNat=2+r[1].toNat:=by omega
     have hbits:∀k,k<8*r[1].toNat->dt.bitI (r.extract 2 (2+r[1].toNat)) k=if dt.bitB r k=true then 1 else 0:=λk hk=>dt.bit_extract (by omega) hk
     have hnb:=u7;have HNEXT:=qe hnext;have S0:=qe s0;have S1:=qe s1;have S2:=qe s2;have HX:=qe hx;have H0:=qe h0;have HBITS:=qe hbits;clear hnext s0 s1 s2 hx h0 hbits;clear hbad;go_wp2_with fail
     go_quiet (fail)
     go_wp2_with fail;refine(rbits_any _ (by rw[HX.out];omega) _).mono ?_;rintro e w2 ⟨v2,rfl,hrow2,hB2⟩;rw[HX.out]at hrow2;obtain⟨g,cap2,hv2,hg0,hg1⟩:=hrow2.form (by omega);subst hv2;have hgr:wr.heap.size<=g:=hg0
     have hcell2:∀k,k<8*r[1].toNat->w2.cell? ⟨g,k,none⟩=some (.int .i64 (dt.bitI (r.extract 2 (2+r[1].toNat)) k)):=λk hk=>by
      have:=Qb hrow2 k (by rw[List.length_map,dt.Ug];exact hk);rw[List.getElem_map,dt.bitsTo_get hk]at this;exact this
     have HC2:=qe hcell2;have HOWN2:=qe (ownsRow_below (qm HR.out λb hb=>rfl:(wr.drewN nq).ownsRow _ _ _ _ _ _) hB2);have Zu:=qe ((JJ HB.out nq).trans (hB2.mono hsr));have HNE2:Hid ((Value.slice a acc.length cap).ownBlock≠some g):=qe λh=>by have:=(HR.out.lt g h).2;omega
     have hs2:=hB2.size;have hs2':w.heap.size<=w2.heap.size:=by have h:wr.heap.size<=w2.heap.size:=hs2;omega
     clear hrow2 hB2 hcell2 hs2 hg0;go_wp2_with fail;obtain⟨wo,hwo⟩:=yM wr;subst hwo
     go_loopw [55,4,9] (λkv v _ wi=>∃k:Nat,k<=8*r[1].toNat/\kv= .int .i64 (k:Int)/\wi.ownsRow w.heap.size 3 1 v (acc ++ dt.yI r k).length ((acc ++ dt.yI r k).map (Value.int .i64))/\Below w.heap.size w wi/\wi.heap[g]? =w2.heap[g]?/\g<wi.heap.size/\v.ownBlock≠some g) (λkv _ _ _=>8*r[1].toNat-(intOf kv).toNat)
     case atStart=>exact⟨0,gU _,rfl,by simpa[dt.yI] using HOWN2.out,Zu.out,rfl,hg1,HNE2.out⟩
     case round=>
      obtain⟨k,hk,rfl,hrow,hb,hkeep,hgl,hne⟩:=hrel;obtain⟨av,capv,rfl,hcapv⟩:=qj hrow;have hlenk:=dt.blockL_len r k;have hszr:=hb.size;have jG:=qe hrow;have HB_:=qe hb;have HKEEP:=qe hkeep;have HNE:=qe hne;clear hrow hb hkeep hne;by_cases hlt:k<8*r[1].toNat
      ·have cc:wr.cell? ⟨g,k,none⟩=some (.int .i64 (dt.bitI (r.extract 2 (2+r[1].toNat)) k)):=(World.cell?_of_block (w:=w2) (a:=⟨g,k,none⟩) HKEEP.out).trans (HC2.out k hlt);rw[HBITS.out k hlt]at cc;have hbs:=dt.Xr r k;have u1:(k:Int)<8*(r[1].toNat:Int):=by omega
       cases hbit:dt.bitB r k
       ·rw[hbit]at hbs cc;have hrow':wr.ownsRow w.heap.size 3 1 (.slice av (acc ++ dt.yI r k).length capv) (acc ++ dt.yI r (k+1)).length ((acc ++ dt.yI r (k+1)).map (Value.int .i64)):=by
         rw[hbs];simpa using jG.out
        simp only[Bool.false_eq_true,if_false]at cc;have hbz:((0:Int) == 1)=false:=rfl;have HBS:=qe hbs;have HBIT:=qe hbit;have HROW':=qe hrow';clear hbs hbit hrow';go_wp2_with fail
        go_roundw
        case rel=>exact⟨k+1,by omega,by go_num,HROW'.out,HB_.out,HKEEP.out,hgl,HNE.out⟩
        case measure=>simp[intOf];omega
       ·rw[hbit,if_pos rfl]at hbs cc;have hln:(acc ++ dt.yI r k).length<=10000000:=by rw[gK];omega
        have hval:(((qN r 0*256+k:Nat):Int))=(r[0].toNat:Int)*256+k:=by rw[S0.out];omega
        have hbo:((1:Int) == 1)=true:=rfl;have HBS:=qe hbs;have HBIT:=qe hbit;have HVAL:=qe hval;clear hbs hbit hval
        generalize hL:acc ++ dt.yI r k=L at *
        have Zq:=qe (HB_.out.alloc HB_.out.size (.cells #[.int .i64 ((r[0].toNat:Int)*256+(k:Int))] 3));have vH:=qe (qm jG.out λb hb=>Below.heap_alloc wr (.cells #[.int .i64 ((r[0].toNat:Int)*256+(k:Int))] 3) b (jG.out.lt b hb).2);have Zp:=qe (show L.length+1<=maxLen from by unfold maxLen;omega);have Zm:=qe (show(L.length+1)*8<=140737488355328 from by omega);have vG:=qe (show w.heap.size<=(wr.alloc (.cells #[.int .i64 ((r[0].toNat:Int)*256+(k:Int))] 3)).heap.size from by have:=HB_.out.size;simp;omega);go_wp2_with (at_builtin;refine qW _ rfl _ _ 88 rfl w.heap.size 3 i0_i (.int .i64 0) 1 8 Tryz.underlying88 HI_i.out HZ_i.out HZ1_i.out HZ2_i.out rfl (by decide) _ _ _ rfl vH.out ⟨wr.heap.size,0,none⟩ 1 1 [.int .i64 ((r[0].toNat:Int)*256+(k:Int))] rfl rfl (cell_one_new _ _ _) (by simp[Value.oneCell']) Zp.out Zm.out vG.out ?_);intro v' w10 zz jg jM;have yt:=qe (Zq.out.grown jg vG.out (λj hj=>(vH.out.lt j hj).1));have zV:=qe zz;have JS:=qe jg;have QM:=qe jM;clear zz jg jM Zq vH Zp Zm vG;go_wp2_with fail
        go_roundw
        case rel=>
         refine⟨k+1,by omega,by go_num,?_,yt.out,?_,?_,?_⟩
         ·have h:=zV.out;rw[HBS.out,HVAL.out,<- List.append_assoc,hL,gK,List.map_append];exact h
         ·rw[JS.out.block g (by simp;omega) (λh=>HNE.out h.symm),Below.heap_alloc _ _ _ hgl];exact HKEEP.out
         ·have h:=JS.out.size;have h2:=World.size_alloc wr (.cells #[.int .i64 ((r[0].toNat:Int)*256+(k:Int))] 3);omega
         ·intro h;rcases QM.out g h with h | h
          ·exact HNE.out h
          ·have h2:=World.size_alloc wr (.cells #[.int .i64 ((r[0].toNat:Int)*256+(k:Int))] 3);omega
        case measure=>simp[intOf];omega
      ·obtain rfl:k=8*r[1].toNat:=by omega
       have HNX:Hid (dt.jd (d.size+1) d (-1) []=dt.jd f (r.extract (2+r[1].toNat) r.size) (r[0].toNat) (acc ++ dt.yI r (8*r[1].toNat))):=by
        unfold Hid;rw[HE.out,HNEXT.out]
       have hsx:(r.extract (2+r[1].toNat) r.size).size=r.size-(2+r[1].toNat):=dt.size_extract r (by omega);have HSX:=qe hsx;clear hsx;go_wp2_with fail
       go_roundw
       case rel=>exact⟨_,f,_,_,by rw[HSX.out];omega,by rw[HSX.out];omega,by omega,by omega,rfl,rfl,HNX.out,by rw[HSX.out,gK];omega,jG.out,HB_.out⟩
       case measure=>show(r.extract (2+r[1].toNat) r.size).size<r.size;rw[HSX.out];omega
end Go.Proofs.YtpcmilhjpmlbpaaGreatDoor
