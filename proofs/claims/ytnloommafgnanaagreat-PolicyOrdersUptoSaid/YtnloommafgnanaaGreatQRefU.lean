/-
  The reference's zone: Before, Sorted.
-/
import Derived.Test.YtnloommafgnanaaGreatQRefP
import Derived.Test.YtnloommafgnanaaGreatQRefC
import Derived.Test.YtnloommafgnanaaGreatQFindP
import Derived.Test.YtnloommafgnanaaGreatQZoneC
import Derived.Test.YtnloommafgnanaaGreatQDataN
import Derived.Deep.RegionHeld3
import Derived.Laws.OwnMore
import Derived.Lib.Bytealg
import Derived.Deep.LoopGhost
namespace Go.Proofs.YtnloommafgnanaaGreat
open Go.RowKit Go.Shelf Go.Proofs.YtnloommafgnanaaGreat.nm Go.Proofs.YtnloommafgnanaaGreat.od

namespace zn
theorem ord_trans {a b d : Rec} (ha : checkB a.owner = true) (hb : checkB b.owner = true) (hd : checkB d.owner = true) (h1 : orderI a b ≤ 0) (h2 : orderI b d ≤ 0) : orderI a d ≤ 0 := recs_cmp.trans ⟨a, ha⟩ ⟨b, hb⟩ ⟨d, hd⟩ h1 h2
end zn

end Go.Proofs.YtnloommafgnanaaGreat
/-
  The reference's zone: Sorted.
-/
namespace Go.Proofs.YtnloommafgnanaaGreat
open Go.RowKit Go.Shelf Go.Proofs.YtnloommafgnanaaGreat.nm Go.Proofs.YtnloommafgnanaaGreat.od

namespace zn
abbrev Sd (l : List Rec) : Prop := l.Pairwise (fun a b => orderI a b ≤ 0)
/-- Two sorted lists, one behind the other, as far as they are joined. -/
structure MergeI (l A B O : List Rec) (i j : Nat) : Prop where
  perm : (O ++ (A.drop i ++ B.drop j)).Perm l
  so : Sd O
  low : ∀ o ∈ O, ∀ x ∈ A.drop i ++ B.drop j, orderI o x ≤ 0
  sa : Sd A
  sb : Sd B
  nm : Named l
theorem sd_head {l : List Rec} {i : Nat} (hs : Sd l) (hi : i < l.length) (hself : orderI l[i] l[i] ≤ 0) : ∀ x ∈ l.drop i, orderI l[i] x ≤ 0 := fun x hx => by
  rw [List.drop_eq_getElem_cons hi] at hx
  rcases List.mem_cons.1 hx with rfl | hx
  · exact hself
  · have h := List.Pairwise.drop (i := i) hs
    rw [List.drop_eq_getElem_cons hi, List.pairwise_cons] at h
    exact h.1 x hx
theorem MergeI.named {l A B O : List Rec} {i j : Nat} (h : MergeI l A B O i j) : (∀ x ∈ O, checkB x.owner = true) ∧ (∀ x ∈ A.drop i, checkB x.owner = true) ∧ (∀ x ∈ B.drop j, checkB x.owner = true) :=
  ⟨fun x hx => h.nm x (h.perm.mem_iff.1 (by simp [hx])), fun x hx => h.nm x (h.perm.mem_iff.1 (by simp [hx])), fun x hx => h.nm x (h.perm.mem_iff.1 (by simp [hx]))⟩
theorem ord_self {a : Rec} (h : checkB a.owner = true) : orderI a a ≤ 0 := by
  have := recs_cmp.self ⟨a, h⟩
  have h2 : orderI a a = 0 := this
  omega
theorem drop_mem {l : List Rec} {i : Nat} (h : i < l.length) : l[i] ∈ l.drop i := by rw [List.drop_eq_getElem_cons h]; exact List.mem_cons_self ..
theorem MergeI.left {l A B O : List Rec} {i j : Nat} (h : MergeI l A B O i j) (hi : i < A.length) (hle : ∀ (hj : j < B.length), orderI A[i] B[j] ≤ 0) : MergeI l A B (O ++ [A[i]]) (i + 1) j := by
  obtain ⟨n1, n2, n3⟩ := h.named
  have hs := ord_self (n2 _ (drop_mem hi))
  have e := List.drop_eq_getElem_cons hi
  have hp := h.perm
  have hl := h.low
  rw [e] at hp hl
  refine ⟨?_, ?_, ?_, h.sa, h.sb, h.nm⟩
  · rw [List.append_assoc]
    exact hp
  · refine List.pairwise_append.2 ⟨h.so, List.pairwise_singleton .., fun a ha b hb => ?_⟩
    rw [List.mem_singleton] at hb
    subst hb
    exact hl a ha _ (List.mem_append.2 (.inl (List.mem_cons_self ..)))
  · intro o ho x hx
    rcases List.mem_append.1 ho with ho | ho
    · exact hl o ho x (by
        rcases List.mem_append.1 hx with hx | hx
        · exact List.mem_append.2 (.inl (List.mem_cons_of_mem _ hx))
        · exact List.mem_append.2 (.inr hx))
    · rw [List.mem_singleton] at ho
      subst ho
      rcases List.mem_append.1 hx with hx | hx
      · exact sd_head h.sa hi hs x (by rw [e]; exact List.mem_cons_of_mem _ hx)
      · have hj : j < B.length := by
          rcases Nat.lt_or_ge j B.length with h' | h'
          · exact h'
          · rw [List.drop_of_length_le h'] at hx; simp at hx
        have hb := sd_head h.sb hj (ord_self (n3 _ (drop_mem hj))) x hx
        exact ord_trans (n2 _ (drop_mem hi)) (n3 _ (drop_mem hj)) (n3 x hx) (hle hj) hb
theorem MergeI.right {l A B O : List Rec} {i j : Nat} (h : MergeI l A B O i j) (hj : j < B.length) (hle : ∀ (hi : i < A.length), orderI B[j] A[i] ≤ 0) : MergeI l A B (O ++ [B[j]]) i (j + 1) := by
  obtain ⟨n1, n2, n3⟩ := h.named
  have hs := ord_self (n3 _ (drop_mem hj))
  have e := List.drop_eq_getElem_cons hj
  have hp := h.perm
  have hl := h.low
  rw [e] at hp hl
  refine ⟨?_, ?_, ?_, h.sa, h.sb, h.nm⟩
  · rw [List.append_assoc]
    refine List.Perm.trans ?_ hp
    refine List.Perm.append_left O ?_
    rw [List.singleton_append]
    exact List.perm_middle.symm
  · refine List.pairwise_append.2 ⟨h.so, List.pairwise_singleton .., fun a ha b hb => ?_⟩
    rw [List.mem_singleton] at hb
    subst hb
    exact hl a ha _ (List.mem_append.2 (.inr (List.mem_cons_self ..)))
  · intro o ho x hx
    rcases List.mem_append.1 ho with ho | ho
    · exact hl o ho x (by
        rcases List.mem_append.1 hx with hx | hx
        · exact List.mem_append.2 (.inl hx)
        · exact List.mem_append.2 (.inr (List.mem_cons_of_mem _ hx)))
    · rw [List.mem_singleton] at ho
      subst ho
      rcases List.mem_append.1 hx with hx | hx
      · have hi : i < A.length := by
          rcases Nat.lt_or_ge i A.length with h' | h'
          · exact h'
          · rw [List.drop_of_length_le h'] at hx; simp at hx
        have ha := sd_head h.sa hi (ord_self (n2 _ (drop_mem hi))) x hx
        exact ord_trans (n3 _ (drop_mem hj)) (n2 _ (drop_mem hi)) (n2 x hx) (hle hi) ha
      · exact sd_head h.sb hj hs x (by rw [e]; exact List.mem_cons_of_mem _ hx)
theorem MergeI.done {l A B O : List Rec} {i j : Nat} (h : MergeI l A B O i j) (hi : A.length ≤ i) (hj : B.length ≤ j) : SortedOf l O := by
  have hp := h.perm
  rw [List.drop_of_length_le hi, List.drop_of_length_le hj, List.append_nil, List.append_nil] at hp
  exact ⟨hp, h.so⟩
theorem MergeI.len {l A B O : List Rec} {i j : Nat} (h : MergeI l A B O i j) : O.length + (A.length - i) + (B.length - j) = l.length := by
  have := h.perm.length_eq
  simp at this
  omega
end zn

theorem recsAt_take {w : World} {b off n cap k : Nat} {l : List Rec} (h : RecsAt w (.slice (some ⟨b, off, none⟩) n cap) l) (hk : k ≤ l.length) : RecsAt w (.slice (some ⟨b, off, none⟩) k cap) (l.take k) := by
  obtain ⟨a, c, hv, hc, hr⟩ := h
  simp only [Value.slice.injEq] at hv
  obtain ⟨rfl, rfl, rfl⟩ := hv
  refine ⟨_, cap, by rw [List.length_take, Nat.min_eq_left hk], by rw [List.length_take]; omega, fun j hj => ?_⟩
  rw [List.length_take] at hj
  rw [List.getElem_take]
  exact hr j (by omega)
end Go.Proofs.YtnloommafgnanaaGreat

/-
  The reference's zone: breaks, rules 2 to 5.
-/
namespace Go.Proofs.YtnloommafgnanaaGreat
open Go.RowKit Go.Shelf Go.Proofs.YtnloommafgnanaaGreat.nm Go.Proofs.YtnloommafgnanaaGreat.od

namespace zn
end zn
/-- What a rule's walk begins with. -/
theorem rec_new (w w1 : World) (r : Rec) (h : w1 = w.alloc (.cells (recC r).toArray 42)) :
    Below w.heap.size w w1 ∧ w1.heap.size = w.heap.size + 1 ∧ RecAt w1 w.heap.size 0 r := by
  subst h
  exact ⟨(Below.refl _ w).alloc (Nat.le_refl _) _, by simp, rec_cell w r _ 0 _ rfl, rec_cell w r _ 1 _ rfl, rec_cell w r _ 2 _ rfl, rec_cell w r _ 3 _ rfl, rec_cell w r _ 4 _ rfl⟩
theorem cells_at {w : World} {b off cap n : Nat} {l : List Rec} (h : RecsAt w (.slice (some ⟨b, off, none⟩) n cap) l) {j : Nat} (hj : j < l.length) : b < w.heap.size ∧ RecAt w b (off + j * 5) l[j] := by
  obtain ⟨a, c, hv, _, hr⟩ := h
  obtain ⟨b', off', he, hl, ha⟩ := hr j hj
  simp only [Value.slice.injEq] at hv
  rw [← hv.1] at he
  simp only [Option.some.injEq, Addr.mk.injEq, and_true] at he
  obtain ⟨rfl, rfl⟩ := he
  exact ⟨hl, ha⟩
theorem recs_some {w : World} {v : Value} {l : List Rec} {k : Nat} (h : RecsAt w v l) (hk : k < l.length) : ∃ b off cap, v = .slice (some ⟨b, off, none⟩) l.length cap ∧ l.length ≤ cap := by
  obtain ⟨a, c, rfl, hc, hr⟩ := h
  obtain ⟨b, off, rfl, _⟩ := hr k hk
  exact ⟨b, off, c, rfl, hc⟩



end Go.Proofs.YtnloommafgnanaaGreat
