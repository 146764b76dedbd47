import Derived.Test.YtpcmilhjpmlbpaaGreatDoorQCpR
namespace Go.Proofs.YtpcmilhjpmlbpaaGreatDoor
open Go.RowKit Go.Shelf nm od
namespace tr
def Xc (c n:Int):Int:=(if c<0 then -(c+1) else c) % n
theorem pick_in (c:Int){n:Int}(hn:0<n):0<=Xc c n/\Xc c n<n:=⟨Int.emod_nonneg _ (by omega),Int.emod_lt_of_pos _ hn⟩
def vo (H:List Zn):Bool:=(List.range H.length).all λk=>(List.range k).all λj=>zU (yD (zh H k)) (yD (zh H j))
theorem risen_bad {H:List Zn}{k j:Nat}(hk:k<H.length)(hj:j<k)(h:zU (yD (zh H k)) (yD (zh H j))=false):vo H=false:=by
 unfold vo;rw[List.all_eq_false];refine⟨k,List.mem_range.2 hk,?_⟩;rw[Bool.not_eq_true,List.all_eq_false];exact⟨j,List.mem_range.2 hj,by rw[h];simp⟩
theorem risen_all {H:List Zn}(h:∀k j,k<H.length->j<k->zU (yD (zh H k)) (yD (zh H j))=true):vo H=true:=by
 unfold vo;rw[List.all_eq_true];intro k hk;rw[List.all_eq_true];intro j hj;exact h k j (List.mem_range.1 hk) (List.mem_range.1 hj)
end tr
theorem pick_any (c n:Int)(hc:-9223372036854775808<=c/\c<=9223372036854775807)(hn:0<n/\n<=9223372036854775807)(w:World):
 Calls Tryz.prog 25 #[.int .i64 c,.int .i64 n] w λe w'=>e= .returned (.int .i64 (tr.Xc c n))/\w'=w:=by
 obtain⟨hc1,hc2⟩:=hc;obtain⟨hn1,hn2⟩:=hn;have hb:=tr.pick_in c hn1;obtain⟨m,hm⟩:=yM (tr.Xc c n);have hn0:¬(n=0):=by omega
 have ew:IntKind.i64.wrap m=m:=Hg _ (by rw[hm];omega);by_cases h:c<0
 ·have e1:IntKind.i64.wrap (c+1)=c+1:=Hg _ (by omega);have e2:IntKind.i64.wrap (-(c+1))= -(c+1):=Hg _ (by omega);have e3:(-(c+1)).tmod n=m:=by rw[Int.tmod_eq_emod_of_nonneg (by omega),hm];unfold tr.Xc;rw[if_pos h]
  have d1:decide (c<0)=true:=gF h;rw[<- hm];clear hm hb
  go_enter Tryz.func25,Tryz.ntmps25
  go_wp2_with fail;go_ret;exact⟨rfl,rfl⟩
 ·have e3:c.tmod n=m:=by rw[Int.tmod_eq_emod_of_nonneg (by omega),hm];unfold tr.Xc;rw[if_neg h]
  have d1:decide (c<0)=false:=gp h;rw[<- hm];clear hm hb
  go_enter Tryz.func25,Tryz.ntmps25
  go_wp2_with fail;go_ret;exact⟨rfl,rfl⟩
end Go.Proofs.YtpcmilhjpmlbpaaGreatDoor
