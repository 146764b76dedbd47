import Derived.Test.YtpcmilhjpmlbpaaGreatDoorQCpR
import Derived.Test.YtpcmilhjpmlbpaaGreatDoorQWirC
namespace Go.Proofs.YtpcmilhjpmlbpaaGreatDoor
open Go.RowKit Go.Shelf nm od
theorem info_msg7:(Tryz.prog.info? 33).map (λi=>(i.zero,i.size,i.bytes))=some (some (yu hd0 (.slice none 0 0) (.slice none 0 0) (.slice none 0 0) (.slice none 0 0)),14,136):=by kernel_rfl
theorem recs_part {w:World}{g n cap c:Nat}{l:List Rec}(h:ql w (.slice (some ⟨g,0,none⟩) n cap) l)(j:Nat){L:List Rec}(hL:j+L.length<=l.length)(he:∀i (h1:i<L.length),L[i]=l[j+i]'(by omega))(hc:L.length<=c):ql w (.slice (some ⟨g,j*5,none⟩) L.length c) L:=by
 obtain⟨a,cap',hv,_,hr⟩:=h;simp only[gL]at hv;obtain⟨rfl,_,_⟩:=hv;refine⟨_,c,rfl,hc,λk hk=>?_⟩;obtain⟨b,off,e,hb,hx⟩:=hr (j+k) (by omega);simp only[gM,Addr.mk.injEq,and_true]at e;obtain⟨rfl,rfl⟩:=e;refine⟨g,j*5,rfl,hb,?_⟩;rw[he k hk];have e2:j*5+k*5=0+(j+k)*5:=by omega
 rw[e2];exact hx
theorem part_get {l:List Rec}{k:Nat}:∀i (h1:i<(tr.uh l k).length),(tr.uh l k)[i]=l[k*16+i]'(by unfold tr.uh at h1;rw[List.length_take,He]at h1;omega):=λi h1=>by
 have h2:i<((l.drop (k*16)).take 16).length:=h1;exact(List.getElem_take (h:=h2)).trans List.getElem_drop
theorem part_eq {l:List Rec}{k:Nat}:(tr.uh l k).length=min 16 (l.length-k*16):=by unfold tr.uh;rw[List.length_take,He]
end Go.Proofs.YtpcmilhjpmlbpaaGreatDoor
