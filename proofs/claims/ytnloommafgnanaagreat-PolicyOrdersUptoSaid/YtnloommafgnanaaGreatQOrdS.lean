/-
  The order of servers, plainly: what is picked of a sorted list, and what is picked of a list as it stands, are the same.
-/
import Derived.Test.YtnloommafgnanaaGreatQRNum
namespace Go.Proofs.YtnloommafgnanaaGreat
open Go.RowKit Go.Shelf Go.Proofs.YtnloommafgnanaaGreat.nm Go.Proofs.YtnloommafgnanaaGreat.od Go.Proofs.YtnloommafgnanaaGreat.sm

namespace po
/-- Ahead: by priority, by a second number, by place. -/
def Lt2 (b : Rec → Int) (x y : Rec × Nat) : Prop := numI x.1.data 0 < numI y.1.data 0 ∨ (numI x.1.data 0 = numI y.1.data 0 ∧ (b x.1 < b y.1 ∨ (b x.1 = b y.1 ∧ x.2 < y.2)))
theorem lt2_anti {b : Rec → Int} {x y : Rec × Nat} (h1 : Lt2 b x y) (h2 : Lt2 b y x) : x = y := by
  unfold Lt2 at h1 h2
  exfalso
  omega
/-- By priority, then by a second number. -/
def ordB (b : Rec → Int) (x y : Rec) : Int := if numI x.data 0 - numI y.data 0 ≠ 0 then numI x.data 0 - numI y.data 0 else b x - b y
theorem ordB_lt (b : Rec → Int) (x y : Rec) : ordB b x y < 0 ↔ numI x.data 0 < numI y.data 0 ∨ (numI x.data 0 = numI y.data 0 ∧ b x < b y) := by
  unfold ordB
  split <;> omega
theorem stable_lt2 {b : Rec → Int} {l : List Rec} {T : List (Rec × Nat)} (h : StableOf (ordB b) l T) : T.Perm l.zipIdx ∧ T.Pairwise (Lt2 b) := by
  obtain ⟨h1, h2⟩ := h
  refine ⟨h1, ?_⟩
  have hnd : (T.map (·.2)).Nodup := by
    have h3 := h1.map (·.2)
    rw [List.zipIdx_map_snd] at h3
    exact h3.symm.nodup List.nodup_range'
  have hne : T.Pairwise (fun x y => x.2 ≠ y.2) := List.pairwise_map.1 hnd
  refine List.Pairwise.imp ?_ (List.pairwise_and_iff.2 ⟨h2, hne⟩)
  rintro x y ⟨hxy, hn⟩
  unfold tlt at hxy
  have n1 := ordB_lt b y.1 x.1
  have n2 := ordB_lt b x.1 y.1
  unfold Lt2
  simp at hxy
  omega
/-- Two lists that are so ordered and have the same are the same. -/
theorem lt2_eq {b : Rec → Int} {x y : List (Rec × Nat)} (hx : x.Pairwise (Lt2 b)) (hy : y.Pairwise (Lt2 b)) (h : x.Perm y) : x = y :=
  List.Perm.eq_of_pairwise (fun _ _ _ _ h1 h2 => lt2_anti h1 h2) hx hy h
end po
end Go.Proofs.YtnloommafgnanaaGreat

/-
  The reference's Order, plainly; it picks what Order picks.
-/
namespace Go.Proofs.YtnloommafgnanaaGreat
open Go.RowKit Go.Shelf Go.Proofs.YtnloommafgnanaaGreat.nm Go.Proofs.YtnloommafgnanaaGreat.od Go.Proofs.YtnloommafgnanaaGreat.sm

namespace po
/-- The least priority. -/
def leastF (l : List Rec) (m : Int) : Int := l.foldl (fun a x => if numI x.data 0 < a then numI x.data 0 else a) m
theorem leastF_props : ∀ (l : List Rec) (m : Int), leastF l m ≤ m ∧ (∀ x ∈ l, leastF l m ≤ numI x.data 0) ∧ (leastF l m = m ∨ ∃ x ∈ l, leastF l m = numI x.data 0)
  | [], m => ⟨Int.le_refl _, nofun, .inl rfl⟩
  | x :: l, m => by
    obtain ⟨h1, h2, h3⟩ := leastF_props l (if numI x.data 0 < m then numI x.data 0 else m)
    have e : leastF (x :: l) m = leastF l (if numI x.data 0 < m then numI x.data 0 else m) := rfl
    rw [e]
    generalize leastF l (if numI x.data 0 < m then numI x.data 0 else m) = y at h1 h2 h3 ⊢
    refine ⟨by split at h1 <;> omega, fun z hz => ?_, ?_⟩
    · rcases List.mem_cons.1 hz with rfl | hz
      · split at h1 <;> omega
      · exact h2 z hz
    · rcases h3 with h3 | ⟨z, hz, h3⟩
      · split at h3
        · exact .inr ⟨x, List.mem_cons_self .., h3⟩
        · exact .inl h3
      · exact .inr ⟨z, List.mem_cons_of_mem _ hz, h3⟩
/-- Of the least priority m, of weight none (z) or some. -/
def inRow (m : Int) (z : Bool) (x : Rec × Nat) : Bool := decide (numI x.1.data 0 = m) && (decide (numI x.1.data 1 = 0) == z)
/-- The servers that count now, with their places. -/
def rowP (l : List Rec) : List (Rec × Nat) := l.zipIdx.filter (inRow (leastF l 65536) true) ++ l.zipIdx.filter (inRow (leastF l 65536) false)
/-- What the reference picks. -/
inductive RRun : List Rec → List Int → List Rec → Prop
  | done (rolls : List Int) : RRun [] rolls []
  | next (l : List Rec) (rolls : List Int) (k : Nat) (L : List Rec) (hk : k < (rowP l).length) (hp : PickAt ((rowP l).map (·.1)) (rowP l).length (rollI rolls (cum ((rowP l).map (·.1)) (rowP l).length)) k) (h : RRun (l.eraseIdx (rowP l)[k].2) rolls.tail L) : RRun l rolls ((rowP l)[k].1 :: L)
theorem pick_one {l : List Rec} {n : Nat} {r : Int} {j k : Nat} (h1 : PickAt l n r j) (h2 : PickAt l n r k) : j = k := by
  rcases Nat.lt_trichotomy j k with h | h | h
  · have := h2.low j h; have := h1.high; omega
  · exact h
  · have := h1.low k h; have := h2.high; omega
theorem zero_w {x : Rec} : (numI x.data 1 = 0 → zeroI x.data = 0) ∧ (numI x.data 1 ≠ 0 → zeroI x.data = 1) := by
  have := num_bd x.data 1
  unfold zeroI
  constructor <;> intro h <;> omega
/-- The row of a list with tags. -/
def rowT (U : List (Rec × Nat)) : List (Rec × Nat) := U.filter (inRow (leastF (U.map (·.1)) 65536) true) ++ U.filter (inRow (leastF (U.map (·.1)) 65536) false)
theorem rowT_sorted {U : List (Rec × Nat)} (hU : U.Pairwise (fun x y => x.2 < y.2)) : (rowT U).Pairwise (Lt2 fun x => zeroI x.data) := by
  unfold rowT
  refine List.pairwise_append.2 ⟨?_, ?_, ?_⟩
  · refine List.Pairwise.imp_of_mem ?_ (hU.filter _)
    intro x y hx hy hxy
    have a := (List.mem_filter.1 hx).2; have b := (List.mem_filter.1 hy).2
    simp only [inRow, Bool.and_eq_true, decide_eq_true_eq, beq_iff_eq] at a b
    exact .inr ⟨by rw [a.1, b.1], .inr ⟨by show zeroI _ = zeroI _; rw [zero_w.1 a.2, zero_w.1 b.2], hxy⟩⟩
  · refine List.Pairwise.imp_of_mem ?_ (hU.filter _)
    intro x y hx hy hxy
    have a := (List.mem_filter.1 hx).2; have b := (List.mem_filter.1 hy).2
    simp only [inRow, Bool.and_eq_true, decide_eq_true_eq, beq_iff_eq, decide_eq_false_iff_not] at a b
    exact .inr ⟨by rw [a.1, b.1], .inr ⟨by show zeroI _ = zeroI _; rw [zero_w.2 a.2, zero_w.2 b.2], hxy⟩⟩
  · intro x hx y hy
    have a := (List.mem_filter.1 hx).2; have b := (List.mem_filter.1 hy).2
    simp only [inRow, Bool.and_eq_true, decide_eq_true_eq, beq_iff_eq, decide_eq_false_iff_not] at a b
    exact .inr ⟨by rw [a.1, b.1], .inl (by show zeroI _ < zeroI _; rw [zero_w.1 a.2, zero_w.2 b.2]; decide)⟩
theorem row_split (m : Int) : ∀ U : List (Rec × Nat), (U.filter (inRow m true) ++ U.filter (inRow m false)).Perm (U.filter fun x => decide (numI x.1.data 0 = m))
  | [] => List.Perm.refl _
  | x :: U => by
    have ih := row_split m U
    by_cases h0 : numI x.1.data 0 = m
    · by_cases h1 : numI x.1.data 1 = 0
      · rw [List.filter_cons_of_pos (by simp [inRow, h0, h1]), List.filter_cons_of_neg (by simp [inRow, h0, h1]), List.filter_cons_of_pos (by simp [h0])]
        exact ih.cons x
      · rw [List.filter_cons_of_neg (by simp [inRow, h0, h1]), List.filter_cons_of_pos (by simp [inRow, h0, h1]), List.filter_cons_of_pos (by simp [h0])]
        exact List.perm_middle.trans (ih.cons x)
    · rw [List.filter_cons_of_neg (by simp [inRow, h0]), List.filter_cons_of_neg (by simp [inRow, h0]), List.filter_cons_of_neg (by simp [h0])]
      exact ih
theorem take_filter {b : Rec → Int} {T : List (Rec × Nat)} {n : Nat} {m : Int} (hT : T.Pairwise (Lt2 b)) (hn : IsGrp (T.map (·.1)) n) (h0 : 0 < T.length) (hm : m = numI (T[0]).1.data 0) : T.take n = T.filter fun x => decide (numI x.1.data 0 = m) := by
  have hle : n ≤ T.length := by have := hn.le; simpa using this
  have e : T.filter (fun x => decide (numI x.1.data 0 = m)) = (T.take n).filter (fun x => decide (numI x.1.data 0 = m)) ++ (T.drop n).filter (fun x => decide (numI x.1.data 0 = m)) := by
    rw [← List.filter_append, List.take_append_drop]
  have h1 : (T.take n).filter (fun x => decide (numI x.1.data 0 = m)) = T.take n := by
    rw [List.filter_eq_self]
    intro x hx
    obtain ⟨j, hj, rfl⟩ := List.getElem_of_mem hx
    rw [List.length_take] at hj
    have := hn.same j (by rw [List.length_map]; omega) (by rw [List.length_map]; omega) (by omega)
    simp only [List.getElem_map] at this
    simp only [List.getElem_take, decide_eq_true_eq]
    rw [this, hm]
  have h2 : (T.drop n).filter (fun x => decide (numI x.1.data 0 = m)) = [] := by
    rw [List.filter_eq_nil_iff]
    intro x hx
    obtain ⟨j, hj, rfl⟩ := List.getElem_of_mem hx
    rw [List.length_drop] at hj
    simp only [List.getElem_drop, decide_eq_true_eq]
    have hnl : n < T.length := by omega
    have hs := hn.stop (by rw [List.length_map]; exact hnl) (by rw [List.length_map]; exact h0)
    simp only [List.getElem_map] at hs
    have ho : ∀ i j (hi : i < T.length) (hj : j < T.length), i ≤ j → numI (T[i]).1.data 0 ≤ numI (T[j]).1.data 0 := fun i j hi hj hij => by
      rcases Nat.eq_or_lt_of_le hij with h | h
      · subst h; exact Int.le_refl _
      · have := List.pairwise_iff_getElem.1 hT i j hi hj h
        unfold Lt2 at this
        omega
    have a := ho 0 n h0 hnl (Nat.zero_le _)
    have b := ho n (n + j) hnl (by omega) (by omega)
    omega
  rw [e, h1, h2, List.append_nil]
theorem least_is {b : Rec → Int} {T U : List (Rec × Nat)} (hp : T.Perm U) (hT : T.Pairwise (Lt2 b)) (h0 : 0 < T.length) : leastF (U.map (·.1)) 65536 = numI (T[0]).1.data 0 := by
  obtain ⟨h1, h2, h3⟩ := leastF_props (U.map (·.1)) 65536
  have hb := num_bd (T[0]).1.data 0
  have hm : (T[0]).1 ∈ U.map (·.1) := List.mem_map.2 ⟨T[0], hp.subset (List.getElem_mem _), rfl⟩
  have h4 := h2 _ hm
  rcases h3 with h3 | ⟨x, hx, h3⟩
  · omega
  · obtain ⟨y, hy, rfl⟩ := List.mem_map.1 hx
    obtain ⟨j, hj, hjy⟩ := List.getElem_of_mem (hp.symm.subset hy)
    rw [← hjy] at h3
    rcases Nat.eq_zero_or_pos j with h | h
    · subst h; exact h3
    · have := List.pairwise_iff_getElem.1 hT 0 j h0 hj h
      unfold Lt2 at this
      omega
/-- The row of a list with tags is the first group of the sorted one. -/
theorem row_take {T U : List (Rec × Nat)} (hp : T.Perm U) (hT : T.Pairwise (Lt2 fun x => zeroI x.data)) (hU : U.Pairwise (fun x y => x.2 < y.2)) {n : Nat} (hn : IsGrp (T.map (·.1)) n) (h0 : 0 < T.length) : rowT U = T.take n := by
  refine lt2_eq (rowT_sorted hU) (hT.sublist (List.take_sublist _ _)) ?_
  have hl := least_is hp hT h0
  rw [take_filter hT hn h0 hl.symm.symm]
  unfold rowT
  exact (row_split _ U).trans ((hp.symm.filter _))
theorem cum_take (l : List Rec) {k n : Nat} (h : k ≤ n) : cum (l.take n) k = cum l k := by
  unfold cum
  rw [List.take_take, Nat.min_eq_left h]
/-- The row by places and the row with tags. -/
theorem rowP_map (U : List (Rec × Nat)) : (rowP (U.map (·.1))).map (·.1) = (rowT U).map (·.1) ∧ ∀ k (h : k < (rowP (U.map (·.1))).length) (h' : k < (rowT U).length), ∃ hp : (rowP (U.map (·.1)))[k].2 < U.length, U[(rowP (U.map (·.1)))[k].2] = (rowT U)[k] := by
  have e : ∀ z m, (U.map (·.1)).zipIdx.filter (inRow m z) = (U.zipIdx.filter (fun y => inRow m z y.1)).map (fun y => (y.1.1, y.2)) := fun z m => by
    rw [List.zipIdx_map, List.filter_map]
    rfl
  have e2 : ∀ z m, U.filter (inRow m z) = (U.zipIdx.filter (fun y => inRow m z y.1)).map (·.1) := fun z m => by
    have : U.filter (inRow m z) = (U.zipIdx.map (·.1)).filter (inRow m z) := by rw [List.zipIdx_map_fst]
    rw [this, List.filter_map]
    rfl
  obtain ⟨V, hV⟩ : ∃ V, V = U.zipIdx.filter (fun y => inRow (leastF (U.map (·.1)) 65536) true y.1) ++ U.zipIdx.filter (fun y => inRow (leastF (U.map (·.1)) 65536) false y.1) := ⟨_, rfl⟩
  have r1 : rowP (U.map (·.1)) = V.map (fun y => (y.1.1, y.2)) := by unfold rowP; rw [e, e, hV, List.map_append]
  have r2 : rowT U = V.map (·.1) := by unfold rowT; rw [e2, e2, hV, List.map_append]
  refine ⟨by rw [r1, r2, List.map_map, List.map_map]; rfl, fun k h h' => ?_⟩
  have hk : k < V.length := by rw [r2, List.length_map] at h'; exact h'
  have hm : V[k] ∈ U.zipIdx := by
    have := List.getElem_mem hk
    have h3 : ∀ y ∈ V, y ∈ U.zipIdx := fun y hy => by
      rw [hV] at hy
      rcases List.mem_append.1 hy with h | h <;> exact (List.mem_filter.1 h).1
    exact h3 _ this
  have g1 : (rowP (U.map (·.1)))[k].2 = V[k].2 := by simp only [r1, List.getElem_map]
  have g2 : (rowT U)[k] = V[k].1 := by simp only [r2, List.getElem_map]
  generalize V[k] = q at hm g1 g2
  obtain ⟨qa, qi⟩ := q
  have hz := List.mem_zipIdx hm
  simp only at g1 g2
  refine ⟨by rw [g1]; omega, ?_⟩
  simp only [g1, g2]
  exact hz.2.2.symm
theorem map_erase {α β : Type} (f : α → β) (l : List α) (k : Nat) : (l.eraseIdx k).map f = (l.map f).eraseIdx k := by
  rw [List.eraseIdx_eq_take_drop_succ, List.eraseIdx_eq_take_drop_succ, List.map_append, List.map_take, List.map_drop]
theorem orders_same {l : List Rec} {rolls : List Int} {L : List Rec} (h : Run l rolls L) : ∀ (T U : List (Rec × Nat)) (L' : List Rec), T.map (·.1) = l → T.Perm U → T.Pairwise (Lt2 fun x => zeroI x.data) → U.Pairwise (fun x y => x.2 < y.2) → RRun (U.map (·.1)) rolls L' → L = L' := by
  induction h with
  | done rolls =>
    intro T U L' hT hp _ _ hr
    have hT0 : T = [] := List.map_eq_nil_iff.1 hT
    subst hT0
    have hU0 : U = [] := List.nil_perm.1 hp
    subst hU0
    generalize hx : ([] : List (Rec × Nat)).map (·.1) = x at hr
    cases hr with
    | done => rfl
    | next _ _ k L hk hp h => rw [← hx] at hk; simp [rowP] at hk
  | next l rolls n k L hk hn hpk h ih =>
    intro T U L' hT hp hs hU hr
    subst hT
    have h0 : 0 < T.length := by rw [List.length_map] at hk; omega
    have hrow := row_take hp hs hU hn h0
    obtain ⟨m1, m2⟩ := rowP_map U
    have hle : n ≤ T.length := by have := hn.le; simpa using this
    have hRl : (rowT U).length = n := by rw [hrow, List.length_take]; omega
    have hPl : (rowP (U.map (·.1))).length = n := by have := congrArg List.length m1; rw [List.length_map, List.length_map] at this; omega
    generalize hx : U.map (·.1) = x at hr
    cases hr with
    | done =>
      have : U = [] := List.map_eq_nil_iff.1 hx
      subst this
      have := hp.length_eq
      simp at this
      simp [this] at h0
    | next _ _ i L1 hi hpi hr1 =>
      subst hx
      have hrl : (rowP (U.map (·.1))).map (·.1) = (T.map (·.1)).take n := by rw [m1, hrow, List.map_take]
      have hik : i = k := by
        rw [hPl, hrl, cum_take _ (Nat.le_refl n)] at hpi
        have hpi2 : PickAt (T.map (·.1)) n (rollI rolls (cum (T.map (·.1)) n)) i :=
          ⟨hpi.lt, fun j hj => by have := hpi.low j hj; rw [cum_take _ (by have := hpi.lt; omega)] at this; exact this, by have := hpi.high; rw [cum_take _ (by have := hpi.lt; omega)] at this; exact this⟩
        exact pick_one hpi2 hpk
      subst hik
      have hiT : i < T.length := by rw [List.length_map] at hk; exact hk
      obtain ⟨hpU, hUe⟩ := m2 i hi (by rw [hRl]; exact hpk.lt)
      have hRT : (rowT U)[i]'(by rw [hRl]; exact hpk.lt) = T[i] := by simp only [hrow, List.getElem_take]
      have hhead : (rowP (U.map (·.1)))[i].1 = (T.map (·.1))[i] := by
        have : ((rowP (U.map (·.1))).map (·.1))[i]'(by rw [List.length_map]; exact hi) = ((T.map (·.1)).take n)[i]'(by rw [List.length_take, List.length_map]; have := hpk.lt; omega) := by simp only [hrl]
        simp only [List.getElem_map, List.getElem_take] at this ⊢
        exact this
      obtain ⟨p, hpp⟩ : ∃ p, p = (rowP (U.map (·.1)))[i].2 := ⟨_, rfl⟩
      simp only [← hpp] at hpU hUe
      have hperm : (T.eraseIdx i).Perm (U.eraseIdx p) := by
        have a := erase_perm T i hiT
        have b := erase_perm U p hpU
        rw [hUe, hRT] at b
        exact (a.trans (hp.trans b.symm)).cons_inv
      rw [← hpp, ← map_erase] at hr1
      have := ih (T.eraseIdx i) (U.eraseIdx p) L1 (map_erase _ _ _) hperm (hs.sublist (List.eraseIdx_sublist _ _)) (hU.sublist (List.eraseIdx_sublist _ _)) hr1
      rw [hhead, this]
theorem order_same {set : List Rec} {rolls : List Int} {T : List (Rec × Nat)} {L L' : List Rec} (hT : StableOf ordI set T) (hL : Run (T.map (·.1)) rolls L) (hR : RRun set rolls L') : L = L' := by
  obtain ⟨h1, h2⟩ := stable_lt2 (b := fun x => zeroI x.data) hT
  refine orders_same hL T set.zipIdx L' rfl h1 h2 ?_ (by rw [List.zipIdx_map_fst]; exact hR)
  rw [List.pairwise_iff_getElem]
  intro i j hi hj hij
  simp only [List.getElem_zipIdx]
  omega
end po
end Go.Proofs.YtnloommafgnanaaGreat
