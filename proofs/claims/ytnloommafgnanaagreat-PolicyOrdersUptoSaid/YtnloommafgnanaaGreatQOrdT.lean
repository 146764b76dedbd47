/-
  Which rewritings count, plainly: what the reference lays in, one behind the other, is the first group of the sorted list.
-/
import Derived.Test.YtnloommafgnanaaGreatQOrdS
namespace Go.Proofs.YtnloommafgnanaaGreat
open Go.RowKit Go.Shelf Go.Proofs.YtnloommafgnanaaGreat.nm Go.Proofs.YtnloommafgnanaaGreat.od Go.Proofs.YtnloommafgnanaaGreat.sm

namespace po
/-- Where a record of the preference v goes, from the place k down. -/
def iposI (out : List Rec) (v : Int) : Nat → Nat
  | 0 => 0
  | k + 1 => if v < numI ((out[k]?).getD ⟨⟨#[]⟩, 0, 0, 0, ⟨#[]⟩⟩).data 1 then iposI out v k else k + 1
theorem iposI_le (out : List Rec) (v : Int) : ∀ k, iposI out v k ≤ k
  | 0 => Nat.le_refl _
  | k + 1 => by
    unfold iposI
    split
    · have := iposI_le out v k; omega
    · exact Nat.le_refl _
theorem iposI_props (out : List Rec) (v : Int) : ∀ k, k ≤ out.length → (∀ j (h : j < out.length), iposI out v k ≤ j → j < k → v < numI (out[j]).data 1) ∧ (0 < iposI out v k → ∀ h2 : iposI out v k - 1 < out.length, numI (out[iposI out v k - 1]).data 1 ≤ v)
  | 0, _ => ⟨fun j _ _ h => absurd h (Nat.not_lt_zero _), fun h => absurd h (Nat.lt_irrefl _)⟩
  | k + 1, hk => by
    obtain ⟨h1, h2⟩ := iposI_props out v k (by omega)
    have e : out[k]? = some out[k] := List.getElem?_eq_getElem (by omega)
    by_cases hv : v < numI (out[k]).data 1
    · have e2 : iposI out v (k + 1) = iposI out v k := by
        show (if v < numI ((out[k]?).getD _).data 1 then iposI out v k else k + 1) = _
        rw [e, Option.getD_some, if_pos hv]
      rw [e2]
      refine ⟨fun j hj h3 h4 => ?_, h2⟩
      rcases Nat.lt_or_ge j k with h | h
      · exact h1 j hj h3 h
      · obtain rfl : j = k := by omega
        exact hv
    · have e2 : iposI out v (k + 1) = k + 1 := by
        show (if v < numI ((out[k]?).getD _).data 1 then iposI out v k else k + 1) = _
        rw [e, Option.getD_some, if_neg hv]
      rw [e2]
      refine ⟨fun j _ h3 h4 => by omega, fun _ h3 => ?_⟩
      simp only [Nat.add_sub_cancel]
      omega
/-- One more rewriting. -/
def insB (out : List Rec) (x : Rec) : List Rec := out.take (iposI out (numI x.data 1) out.length) ++ x :: out.drop (iposI out (numI x.data 1) out.length)
def stepB (s : Int × List Rec) (x : Rec) : Int × List Rec :=
  if numI x.data 0 < s.1 then (numI x.data 0, insB [] x)
  else if s.1 < numI x.data 0 then s else (s.1, insB s.2 x)
def rewI (l : List Rec) : Int × List Rec := l.foldl stepB (65536, [])
theorem rewI_snoc (l : List Rec) (x : Rec) : rewI (l ++ [x]) = stepB (rewI l) x := by unfold rewI; rw [List.foldl_append]; rfl
theorem leastF_snoc (l : List Rec) (x : Rec) (m : Int) : leastF (l ++ [x]) m = if numI x.data 0 < leastF l m then numI x.data 0 else leastF l m := by unfold leastF; rw [List.foldl_append]; rfl
def n1 (x : Rec) : Int := numI x.data 1
/-- What holds of the rewritings that are laid in. -/
structure RewI (P : List (Rec × Nat)) (m : Int) (O : List (Rec × Nat)) : Prop where
  least : m = leastF (P.map (·.1)) 65536
  perm : O.Perm (P.filter fun x => decide (numI x.1.data 0 = m))
  sorted : O.Pairwise (Lt2 n1)
theorem ins_sorted {O : List (Rec × Nat)} {x : Rec × Nat} {m : Int} (hO : O.Pairwise (Lt2 n1)) (hm : ∀ y ∈ O, numI y.1.data 0 = m) (hx : numI x.1.data 0 = m) (ht : ∀ y ∈ O, y.2 < x.2) : ∃ O' : List (Rec × Nat), O'.map (·.1) = insB (O.map (·.1)) x.1 ∧ O'.Perm (x :: O) ∧ O'.Pairwise (Lt2 n1) := by
  obtain ⟨k, hk⟩ : ∃ k, k = iposI (O.map (·.1)) (numI x.1.data 1) (O.map (·.1)).length := ⟨_, rfl⟩
  have hkl := iposI_le (O.map (·.1)) (numI x.1.data 1) (O.map (·.1)).length
  obtain ⟨h1, h2⟩ := iposI_props (O.map (·.1)) (numI x.1.data 1) (O.map (·.1)).length (Nat.le_refl _)
  rw [← hk] at hkl h1 h2
  rw [List.length_map] at hkl
  have hle : ∀ i j (hi : i < O.length) (hj : j < O.length), i ≤ j → n1 (O[i]).1 ≤ n1 (O[j]).1 := fun i j hi hj hij => by
    rcases Nat.eq_or_lt_of_le hij with h | h
    · subst h; exact Int.le_refl _
    · have h3 := List.pairwise_iff_getElem.1 hO i j hi hj h
      have a := hm _ (List.getElem_mem hi); have b := hm _ (List.getElem_mem hj)
      unfold Lt2 at h3
      omega
  refine ⟨O.take k ++ x :: O.drop k, ?_, ?_, ?_⟩
  · unfold insB
    rw [← hk, List.map_append, List.map_cons, List.map_take, List.map_drop]
  · exact List.perm_middle.trans (by rw [List.take_append_drop])
  · refine List.pairwise_append.2 ⟨hO.sublist (List.take_sublist _ _), List.pairwise_cons.2 ⟨fun y hy => ?_, hO.sublist (List.drop_sublist _ _)⟩, fun y hy z hz => ?_⟩
    · obtain ⟨j, hj, rfl⟩ := List.getElem_of_mem hy
      rw [List.length_drop] at hj
      rw [List.getElem_drop]
      have := h1 (k + j) (by rw [List.length_map]; omega) (by omega) (by rw [List.length_map]; omega)
      rw [List.getElem_map] at this
      exact .inr ⟨by rw [hx, hm _ (List.getElem_mem _)], .inl this⟩
    · obtain ⟨i, hi, rfl⟩ := List.getElem_of_mem hy
      rw [List.length_take] at hi
      rw [List.getElem_take]
      rcases List.mem_cons.1 hz with rfl | hz
      · have h3 := h2 (by omega) (by rw [List.length_map]; omega)
        rw [List.getElem_map] at h3
        have h4 := hle i (k - 1) (by omega) (by omega) (by omega)
        have h5 := ht _ (List.getElem_mem (show i < O.length by omega))
        have h6 := hm _ (List.getElem_mem (show i < O.length by omega))
        unfold n1 at h4
        unfold Lt2 n1
        omega
      · obtain ⟨j, hj, rfl⟩ := List.getElem_of_mem hz
        rw [List.length_drop] at hj
        rw [List.getElem_drop]
        exact List.pairwise_iff_getElem.1 hO i (k + j) (by omega) (by omega) (by omega)
theorem rew_step {P : List (Rec × Nat)} {x : Rec × Nat} {s : Int × List Rec} {O : List (Rec × Nat)} (h : RewI P s.1 O) (hO : O.map (·.1) = s.2) (ht : ∀ y ∈ P, y.2 < x.2) : ∃ O' : List (Rec × Nat), O'.map (·.1) = (stepB s x.1).2 ∧ RewI (P ++ [x]) (stepB s x.1).1 O' := by
  obtain ⟨m, out⟩ := s
  simp only at h hO
  subst hO
  obtain ⟨a1, a2, a3⟩ := h
  have hlt : leastF ((P ++ [x]).map (·.1)) 65536 = if numI x.1.data 0 < m then numI x.1.data 0 else m := by
    rw [List.map_append, List.map_singleton, leastF_snoc, ← a1]
  have hge : ∀ y ∈ P, m ≤ numI y.1.data 0 := fun y hy => by
    have := (leastF_props (P.map (·.1)) 65536).2.1 y.1 (List.mem_map.2 ⟨y, hy, rfl⟩)
    rw [← a1] at this; exact this
  have hOm : ∀ y ∈ O, numI y.1.data 0 = m ∧ y ∈ P := fun y hy => by
    have := List.mem_filter.1 (a2.subset hy)
    exact ⟨of_decide_eq_true this.2, this.1⟩
  by_cases h1 : numI x.1.data 0 < m
  · have e : stepB (m, O.map (·.1)) x.1 = (numI x.1.data 0, insB [] x.1) := if_pos h1
    rw [e]
    rw [if_pos h1] at hlt
    refine ⟨[x], by simp [insB, iposI], hlt.symm, ?_, List.pairwise_singleton _ _⟩
    rw [List.filter_append, List.filter_eq_nil_iff.2 (fun y hy => by have := hge y hy; simp; omega)]
    simp
  · rw [if_neg h1] at hlt
    by_cases h2 : m < numI x.1.data 0
    · have e : stepB (m, O.map (·.1)) x.1 = (m, O.map (·.1)) := by unfold stepB; rw [if_neg h1, if_pos h2]
      rw [e]
      refine ⟨O, rfl, hlt.symm, ?_, a3⟩
      rw [List.filter_append, List.filter_cons_of_neg (by simp; omega), List.filter_nil, List.append_nil]
      exact a2
    · have e : stepB (m, O.map (·.1)) x.1 = (m, insB (O.map (·.1)) x.1) := by unfold stepB; rw [if_neg h1, if_neg h2]
      rw [e]
      have hx : numI x.1.data 0 = m := by omega
      obtain ⟨O', b1, b2, b3⟩ := ins_sorted a3 (fun y hy => (hOm y hy).1) hx (fun y hy => ht y (hOm y hy).2)
      refine ⟨O', b1, hlt.symm, ?_, b3⟩
      rw [List.filter_append, List.filter_cons_of_pos (by simp [hx]), List.filter_nil]
      exact b2.trans ((List.perm_append_singleton x _).symm.trans (a2.append_right [x]))
theorem rew_all (K : List Rec) : ∀ k, k ≤ K.length → ∃ O : List (Rec × Nat), O.map (·.1) = (rewI (K.take k)).2 ∧ RewI (K.zipIdx.take k) (rewI (K.take k)).1 O
  | 0, _ => ⟨[], rfl, rfl, List.Perm.refl _, List.Pairwise.nil⟩
  | k + 1, hk => by
    obtain ⟨O, h1, h2⟩ := rew_all K k (by omega)
    have e1 : K.take (k + 1) = K.take k ++ [K[k]] := List.take_succ_eq_append_getElem (by omega)
    have e2 : K.zipIdx.take (k + 1) = K.zipIdx.take k ++ [(K[k], k)] := by
      rw [List.take_succ_eq_append_getElem (by rw [List.length_zipIdx]; omega), List.getElem_zipIdx, Nat.zero_add]
    obtain ⟨O', h3, h4⟩ := rew_step (x := (K[k], k)) h2 h1 (fun y hy => by
      obtain ⟨j, hj, rfl⟩ := List.getElem_of_mem hy
      rw [List.length_take, List.length_zipIdx] at hj
      rw [List.getElem_take, List.getElem_zipIdx]
      simp only
      omega)
    rw [e1, rewI_snoc, e2]
    exact ⟨O', h3, h4⟩
theorem rew_same {K : List Rec} {T : List (Rec × Nat)} {n : Nat} (hT : StableOf (ordB n1) K T) (hn : IsGrp (T.map (·.1)) n) : (T.map (·.1)).take n = (rewI K).2 := by
  obtain ⟨h1, h2⟩ := stable_lt2 hT
  obtain ⟨O, h3, h4⟩ := rew_all K K.length (Nat.le_refl _)
  rw [List.take_length] at h3 h4
  rw [List.take_of_length_le (by rw [List.length_zipIdx]; exact Nat.le_refl _)] at h4
  rw [← h3, ← List.map_take]
  congr 1
  by_cases h0 : 0 < T.length
  · have hl := least_is h1 h2 h0
    rw [← h4.least] at hl
    refine lt2_eq (h2.sublist (List.take_sublist _ _)) h4.sorted ?_
    rw [take_filter h2 hn h0 hl]
    exact (h1.filter _).trans h4.perm.symm
  · have hT0 : T = [] := List.eq_nil_of_length_eq_zero (by omega)
    have hz : K.zipIdx = [] := by rw [hT0] at h1; exact List.nil_perm.1 h1
    have hp := h4.perm
    rw [hz] at hp
    have hO : O = [] := List.perm_nil.1 hp
    rw [hT0, hO, List.take_nil]
end po
end Go.Proofs.YtnloommafgnanaaGreat
