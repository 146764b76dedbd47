/-
  The stable sort of the library, plainly: tags, blocks.
-/
import Derived.Test.YtnloommafgnanaaGreatQSymQ
namespace Go.Proofs.YtnloommafgnanaaGreat.sm
open Go.Sort

section
variable {α : Type} [Inhabited α]
/-- Less, and where neither is less: ahead. -/
def tlt (lt : α → α → Bool) (tg : α → Nat) (x y : α) : Bool := lt x y || (!lt y x && decide (tg x < tg y))
omit [Inhabited α] in
theorem tlt_swo {lt : α → α → Bool} {tg : α → Nat} (h : SWO lt) : SWO (tlt lt tg) := by
  have as : ∀ x y, lt x y = true → lt y x = false := fun x y h1 => by
    cases h2 : lt y x with
    | false => rfl
    | true => have := h.trans _ _ _ h1 h2; rw [h.irrefl] at this; cases this
  refine ⟨fun x => ?_, fun x y z h1 h2 => ?_, fun x y z h1 h2 => ?_⟩
  · simp [tlt, h.irrefl]
  · simp only [tlt, Bool.or_eq_true, Bool.and_eq_true, Bool.not_eq_true', decide_eq_true_eq] at h1 h2 ⊢
    rcases h1 with h1 | ⟨h1, g1⟩
    · rcases h2 with h2 | ⟨h2, g2⟩
      · exact .inl (h.trans _ _ _ h1 h2)
      · left
        cases hz : lt x z with
        | true => rfl
        | false => have := h.ntrans _ _ _ hz h2; rw [h1] at this; cases this
    · rcases h2 with h2 | ⟨h2, g2⟩
      · left
        cases hz : lt x z with
        | true => rfl
        | false => have := h.ntrans _ _ _ h1 hz; rw [h2] at this; cases this
      · right
        exact ⟨h.ntrans _ _ _ h2 h1, by omega⟩
  · simp only [tlt, Bool.or_eq_false_iff, Bool.and_eq_false_iff, Bool.not_eq_false', decide_eq_false_iff_not] at h1 h2 ⊢
    obtain ⟨a1, b1⟩ := h1
    obtain ⟨a2, b2⟩ := h2
    refine ⟨h.ntrans _ _ _ a1 a2, ?_⟩
    rcases b1 with b1 | b1
    · left
      cases hz : lt z x with
      | true => rfl
      | false => have := h.ntrans _ _ _ a2 hz; rw [b1] at this; cases this
    · rcases b2 with b2 | b2
      · left
        cases hz : lt z x with
        | true => rfl
        | false => have := h.ntrans _ _ _ hz a1; rw [b2] at this; cases this
      · right; omega
omit [Inhabited α] in
theorem tlt_ahead {lt : α → α → Bool} {tg : α → Nat} {x y : α} (h : tg x < tg y) : lt y x = tlt lt tg y x := by
  simp [tlt, show ¬ tg y < tg x by omega]

variable {c lt : α → α → Bool}
theorem insInner_eq {a : Nat} : ∀ (j : Nat) (d : Array α), j < d.size → (∀ k, a ≤ k → k < j → c d[j]! d[k]! = lt d[j]! d[k]!) → insInner c a j d = insInner lt a j d
  | 0, d, _, _ => rfl
  | j + 1, d, hj, h => by
    unfold insInner
    by_cases ha : j + 1 > a
    · rw [h j (by omega) (by omega)]
      by_cases hl : lt d[j + 1]! d[j]! = true
      · rw [hl]
        simp only [ha, decide_true, Bool.and_self, if_true]
        refine insInner_eq j (swp d (j + 1) j) (by rw [size_swp]; omega) fun k h1 h2 => ?_
        rw [swp_right d (j + 1) j (by omega), swp_other d (j + 1) j k (by omega) (by omega)]
        exact h k h1 (by omega)
      · have hl' : lt d[j + 1]! d[j]! = false := by simpa using hl
        simp [hl']
    · simp [ha]
theorem insInner_perm {a : Nat} : ∀ (j : Nat) (d : Array α), j < d.size → a ≤ j → PermIn a (j + 1) d (insInner lt a j d)
  | 0, d, _, _ => permIn_refl _ _ _
  | j + 1, d, hj, h => by
    unfold insInner
    split
    · rename_i ht
      simp only [Bool.and_eq_true, decide_eq_true_eq] at ht
      have h1 := swp_permIn d a (j + 1 + 1) (j + 1) j (by omega) (by omega) (by omega) (by omega) (by omega)
      have h2 := insInner_perm j (swp d (j + 1) j) (by rw [size_swp]; omega) (by omega : a ≤ j)
      exact permIn_trans _ _ _ _ _ h1 (permIn_mono _ _ _ _ _ _ (Nat.le_refl _) (by omega) (by rw [size_swp]; omega) h2)
    · exact permIn_refl _ _ _
theorem insOuter_eq {a b : Nat} : ∀ (N i : Nat) (d : Array α), b - i ≤ N → a ≤ i → b ≤ d.size → (∀ i' k, i ≤ i' → i' < b → a ≤ k → k < i' → c d[i']! d[k]! = lt d[i']! d[k]!) → insOuter c a b i d = insOuter lt a b i d := by
  intro N
  induction N with
  | zero =>
    intro i d h _ _ _
    have e : ∀ f : α → α → Bool, insOuter f a b i d = d := fun f => by rw [insOuter, if_neg (by omega)]
    rw [e, e]
  | succ N ih =>
    intro i d h ha hb hag
    rw [insOuter]
    conv => rhs; rw [insOuter]
    by_cases hi : i < b
    · rw [if_pos hi, if_pos hi, insInner_eq i d (by omega) (fun k h1 h2 => hag i k (Nat.le_refl _) hi h1 h2)]
      have hp : PermIn a (i + 1) d (insInner lt a i d) := insInner_perm i d (by omega) ha
      refine ih (i + 1) _ (by omega) (by omega) (by rw [hp.1]; exact hb) fun i' k h1 h2 h3 h4 => ?_
      rw [hp.2.1 i' (.inr h1)]
      rcases Nat.lt_or_ge k (i + 1) with hk | hk
      · exact permIn_all d _ a (i + 1) (fun v => c d[i']! v = lt d[i']! v) (by omega) hp (fun z hz1 hz2 => hag i' z (by omega) h2 hz1 (by omega)) k h3 hk
      · rw [hp.2.1 k (.inr hk)]
        exact hag i' k (by omega) h2 h3 h4
    · rw [if_neg hi, if_neg hi]
/-- The sort by insertion, by what the code asks. -/
theorem ins_post (hS : SWO lt) {a b : Nat} {d : Array α} (hab : a ≤ b) (hb : b ≤ d.size) (hag : ∀ i k, i < b → a ≤ k → k < i → c d[i]! d[k]! = lt d[i]! d[k]!) : PermIn a b d (insertionSort c d a b) ∧ SortedIn lt a b (insertionSort c d a b) := by
  have e : insertionSort c d a b = insertionSort lt d a b := by
    unfold insertionSort
    exact insOuter_eq b (a + 1) d (by omega) (by omega) hb fun i' k h1 h2 h3 h4 => hag i' k h2 h3 h4
  rw [e]
  exact insertionSort_holds hS d a b hab hb

/-! ### Blocks -/
variable {tg : α → Nat}
/-- A block that is in order, and has just those that stood in it at the beginning. -/
structure Blk (lt : α → α → Bool) (tg : α → Nat) (d : Array α) (s lo : Nat) : Prop where
  sorted : SortedIn lt lo (min (lo + s) d.size) d
  tags : ∀ i, lo ≤ i → i < lo + s → i < d.size → lo ≤ tg d[i]! ∧ tg d[i]! < lo + s
theorem Blk.congr {d d' : Array α} {s lo : Nat} (h : Blk lt tg d s lo) (hs : d'.size = d.size) (he : ∀ x, lo ≤ x → x < lo + s → d'[x]! = d[x]!) : Blk lt tg d' s lo := by
  refine ⟨?_, fun i h1 h2 h3 => by rw [he i h1 h2]; exact h.tags i h1 h2 (by omega)⟩
  rw [hs]
  exact sorted_congr h.sorted fun x h1 h2 => he x h1 (by omega)
theorem blk_pre (hlt : lt = tlt c tg) {d : Array α} {s a b : Nat} (hs : 0 < s) (h1 : Blk lt tg d s a) (h2 : Blk lt tg d s (a + s)) (hb : b = min (a + s + s) d.size) (hm : a + s < d.size) : Pre c lt a (a + s) b d := by
  refine ⟨by omega, by omega, by omega, ?_, by rw [hb]; exact h2.sorted, fun i j k1 k2 k3 k4 => ?_⟩
  · have := h1.sorted
    rw [show min (a + s) d.size = a + s by omega] at this
    exact this
  · rw [hlt]
    have t1 := h1.tags i k1 k2 (by omega)
    have t2 := h2.tags j k3 (by omega) (by omega)
    exact tlt_ahead (by omega)
theorem blk_merged {d d' : Array α} {s a b : Nat} (h1 : Blk lt tg d s a) (h2 : Blk lt tg d s (a + s)) (hb : b = min (a + s + s) d.size) (hp : Post lt a b d d') : Blk lt tg d' (2 * s) a := by
  have hs := hp.perm.1
  refine ⟨by rw [hs, show min (a + 2 * s) d.size = b by omega]; exact hp.sorted, fun i k1 k2 k3 => ?_⟩
  refine permIn_all d d' a b (fun v => a ≤ tg v ∧ tg v < a + 2 * s) (by omega) hp.perm (fun z hz1 hz2 => ?_) i k1 (by omega)
  rcases Nat.lt_or_ge z (a + s) with hz | hz
  · have := h1.tags z hz1 hz (by omega); exact ⟨this.1, by omega⟩
  · have := h2.tags z hz (by omega) (by omega); exact ⟨by omega, by omega⟩
theorem blk_alone {d : Array α} {s a : Nat} (h1 : Blk lt tg d s a) (hn : d.size ≤ a + s) : Blk lt tg d (2 * s) a := by
  refine ⟨?_, fun i k1 k2 k3 => by have := h1.tags i k1 (by omega) k3; exact ⟨this.1, by omega⟩⟩
  have := h1.sorted
  rw [show min (a + s) d.size = min (a + 2 * s) d.size by omega] at this
  exact this
/-- The first blocks. -/
theorem blk_first (hlt : lt = tlt c tg) (hS : SWO lt) {d : Array α} {s a b : Nat} (hb : b = min (a + s) d.size) (ha : a ≤ d.size) (ht : ∀ i, a ≤ i → i < d.size → tg d[i]! = i) : PermIn a b d (insertionSort c d a b) ∧ Blk lt tg (insertionSort c d a b) s a := by
  have h := ins_post (c := c) hS (show a ≤ b by omega) (show b ≤ d.size by omega) (fun i k h1 h2 h3 => by
    rw [hlt]
    exact tlt_ahead (by rw [ht k h2 (by omega), ht i (by omega) (by omega)]; exact h3))
  refine ⟨h.1, ?_, fun i k1 k2 k3 => ?_⟩
  · rw [h.1.1, ← hb]; exact h.2
  · have hs := h.1.1
    refine permIn_all d _ a b (fun v => a ≤ tg v ∧ tg v < a + s) (by omega) h.1 (fun z hz1 hz2 => ?_) i k1 (by omega)
    rw [ht z hz1 (by omega)]
    exact ⟨hz1, by omega⟩
/-- All blocks of a size up to a place; those of a size from a place on. -/
def Done (lt : α → α → Bool) (tg : α → Nat) (d : Array α) (s q0 : Nat) : Prop := ∀ q, q < q0 → Blk lt tg d s (q * s)
def Todo (lt : α → α → Bool) (tg : α → Nat) (d : Array α) (s q0 : Nat) : Prop := ∀ q, q0 ≤ q → q * s < d.size → Blk lt tg d s (q * s)
def AllB (lt : α → α → Bool) (tg : α → Nat) (d : Array α) (s : Nat) : Prop := ∀ q, q * s < d.size → Blk lt tg d s (q * s)
theorem mul_lt_step {q q0 s : Nat} (h : q < q0) : q * s + s ≤ q0 * s := by
  have := Nat.mul_le_mul_right s (show q + 1 ≤ q0 from h)
  rw [Nat.add_mul, Nat.one_mul] at this
  exact this
theorem done_next {d d' : Array α} {s q0 b : Nat} (h : Done lt tg d s q0) (hp : PermIn (q0 * s) b d d') (hb : Blk lt tg d' s (q0 * s)) : Done lt tg d' s (q0 + 1) := fun q hq => by
  rcases Nat.lt_or_ge q q0 with h1 | h1
  · have h2 := mul_lt_step (s := s) h1
    exact (h q h1).congr hp.1 fun x _ hx => hp.2.1 x (.inl (by omega))
  · obtain rfl : q = q0 := by omega
    exact hb
theorem todo_next {d d' : Array α} {s q0 a b : Nat} (h : Todo lt tg d s q0) (hp : PermIn a b d d') (hb : b ≤ (q0 + 2) * s) (_ha : a = q0 * s) : Todo lt tg d' s (q0 + 2) := fun q hq hqn => by
  have h2 := Nat.mul_le_mul_right s hq
  have hs := hp.1
  exact (h q (by omega) (by omega)).congr hp.1 fun x hx _ => hp.2.1 x (.inr (by omega))
theorem all_of_done {d : Array α} {s q0 : Nat} (h : Done lt tg d s q0) (hn : d.size ≤ q0 * s) : AllB lt tg d s := fun q hq => by
  rcases Nat.lt_or_ge q q0 with h1 | h1
  · exact h q h1
  · have := Nat.mul_le_mul_right s h1
    omega
theorem sorted_of_all {d : Array α} {s : Nat} (h : AllB lt tg d s) (hn : d.size ≤ s) : SortedIn lt 0 d.size d := by
  rcases Nat.eq_zero_or_pos d.size with h0 | h0
  · intro i j _ h2 h3; omega
  · have := (h 0 (by omega)).sorted
    rw [show min (0 * s + s) d.size = d.size by omega, Nat.zero_mul] at this
    exact this
end
end Go.Proofs.YtnloommafgnanaaGreat.sm
