/-
  The stable sort of the library, plainly: exchanges of parts, and the merge in place.
-/
import Derived.Sort.LotA
namespace Go.Proofs.YtnloommafgnanaaGreat.sm
open Go.Sort
variable {α : Type}

/-- Two parts of n exchanged. -/
def swrF (f : Nat → α) (a b n x : Nat) : α := if a ≤ x ∧ x < a + n then f (x - a + b) else if b ≤ x ∧ x < b + n then f (x - b + a) else f x
/-- The parts [s, m) and [m, e) in the other order. -/
def rotF (f : Nat → α) (s m e x : Nat) : α := if s ≤ x ∧ x < s + (e - m) then f (x - s + m) else if s + (e - m) ≤ x ∧ x < e then f (x - (e - m)) else f x
/-- Two places exchanged. -/
def swpF (f : Nat → α) (i j x : Nat) : α := if x = j then f i else if x = i then f j else f x

theorem swr_zero (f : Nat → α) (a b : Nat) : swrF f a b 0 = f := by
  funext x; unfold swrF; rw [if_neg (by omega), if_neg (by omega)]
theorem swr_step (f : Nat → α) (a b n : Nat) (h : a + n < b) : swrF f a b (n + 1) = swpF (swrF f a b n) (a + n) (b + n) := by
  funext x
  unfold swpF
  by_cases h1 : x = b + n
  · subst h1
    rw [if_pos rfl]
    unfold swrF
    rw [if_neg (by omega), if_pos (by omega), if_neg (by omega), if_neg (by omega)]
    congr 1; omega
  · rw [if_neg h1]
    by_cases h2 : x = a + n
    · subst h2
      rw [if_pos rfl]
      unfold swrF
      rw [if_pos (by omega), if_neg (by omega), if_neg (by omega)]
      congr 1; omega
    · rw [if_neg h2]
      unfold swrF
      by_cases h3 : a ≤ x ∧ x < a + n
      · rw [if_pos h3, if_pos (by omega)]
      · rw [if_neg h3, if_neg (by omega)]
        by_cases h4 : b ≤ x ∧ x < b + n
        · rw [if_pos h4, if_pos (by omega)]
        · rw [if_neg h4, if_neg (by omega)]
theorem swp_at [Inhabited α] (d : Array α) {i j : Nat} (hi : i < d.size) (hj : j < d.size) (x : Nat) : (swp d i j)[x]! = swpF (fun y => d[y]!) i j x := by
  unfold swpF
  by_cases h1 : x = j
  · subst h1; rw [if_pos rfl]; exact swp_right d i x hj
  · rw [if_neg h1]
    by_cases h2 : x = i
    · subst h2; rw [if_pos rfl]; exact swp_left d x j hi h1
    · rw [if_neg h2]; exact swp_other d i j x h2 h1

/-- The rounds of rotate. -/
theorem rot_more (f : Nat → α) (m i j : Nat) (hij : j < i) (him : i ≤ m) : rotF f (m - i) m (m + j) = rotF (swrF f (m - i) m j) (m - i + j) m (m + j) := by
  funext x
  unfold rotF
  by_cases h1 : m - i ≤ x ∧ x < m - i + (m + j - m)
  · rw [if_pos h1, if_neg (by omega), if_neg (by omega)]
    unfold swrF; rw [if_pos (by omega)]
  · rw [if_neg h1]
    by_cases h2 : m - i + j ≤ x ∧ x < m - i + j + (m + j - m)
    · rw [if_pos h2, if_pos (by omega)]
      unfold swrF; rw [if_neg (by omega), if_pos (by omega)]
      congr 1; omega
    · rw [if_neg h2]
      by_cases h3 : m - i + (m + j - m) ≤ x ∧ x < m + j
      · rw [if_pos h3, if_pos (by omega)]
        unfold swrF; rw [if_neg (by omega), if_neg (by omega)]
      · rw [if_neg h3, if_neg (by omega)]
        unfold swrF; rw [if_neg (by omega), if_neg (by omega)]
theorem rot_less (f : Nat → α) (m i j : Nat) (hij : i < j) (him : i ≤ m) : rotF f (m - i) m (m + j) = rotF (swrF f (m - i) (m + j - i) i) (m - i) m (m + (j - i)) := by
  funext x
  unfold rotF
  by_cases h1 : m - i ≤ x ∧ x < m - i + (m + (j - i) - m)
  · rw [if_pos (by omega), if_pos h1]
    unfold swrF
    by_cases h2 : m - i ≤ x - (m - i) + m ∧ x - (m - i) + m < m - i + i
    · omega
    · rw [if_neg h2]
      by_cases h3 : m + j - i ≤ x - (m - i) + m ∧ x - (m - i) + m < m + j - i + i
      · omega
      · rw [if_neg h3]
  · rw [if_neg h1]
    by_cases h2 : m - i + (m + (j - i) - m) ≤ x ∧ x < m + (j - i)
    · rw [if_pos h2, if_pos (by omega)]
      unfold swrF; rw [if_pos (by omega)]
      congr 1; omega
    · rw [if_neg h2]
      by_cases h3 : m - i + (m + j - m) ≤ x ∧ x < m + j
      · rw [if_neg (by omega), if_pos h3]
        unfold swrF; rw [if_neg (by omega), if_pos (by omega)]
        congr 1; omega
      · rw [if_neg (by omega), if_neg h3]
        unfold swrF; rw [if_neg (by omega), if_neg (by omega)]
theorem rot_same (f : Nat → α) (m i : Nat) (him : i ≤ m) : rotF f (m - i) m (m + i) = swrF f (m - i) m i := by
  funext x
  unfold rotF swrF
  by_cases h1 : m - i ≤ x ∧ x < m - i + i
  · rw [if_pos (by omega), if_pos h1]
  · rw [if_neg (by omega), if_neg h1]
    by_cases h2 : m ≤ x ∧ x < m + i
    · rw [if_pos (by omega), if_pos h2]; congr 1; omega
    · rw [if_neg (by omega), if_neg h2]
/-- A shift of one place to the right, by exchanges; and to the left. -/
theorem rot_right (f : Nat → α) (a k : Nat) (h : a < k) : rotF f a (a + 1) (k + 1) = swpF (rotF f a (a + 1) k) (k - 1) k := by
  funext x
  unfold swpF
  by_cases h1 : x = k
  · subst h1
    rw [if_pos rfl]
    unfold rotF
    rw [if_neg (by omega), if_pos (by omega)]
    by_cases h2 : a ≤ x - 1 ∧ x - 1 < a + (x - (a + 1))
    · omega
    · rw [if_neg h2, if_pos (by omega)]; congr 1; omega
  · rw [if_neg h1]
    by_cases h2 : x = k - 1
    · subst h2
      rw [if_pos rfl]
      unfold rotF
      rw [if_pos (by omega), if_neg (by omega), if_neg (by omega)]
      congr 1; omega
    · rw [if_neg h2]
      unfold rotF
      by_cases h3 : a ≤ x ∧ x < a + (k - (a + 1))
      · rw [if_pos h3, if_pos (by omega)]
      · rw [if_neg h3, if_neg (by omega)]
        by_cases h4 : a + (k - (a + 1)) ≤ x ∧ x < k
        · omega
        · rw [if_neg h4, if_neg (by omega)]
theorem rot_left (f : Nat → α) (m k : Nat) (h : k < m) : rotF f k m (m + 1) = swpF (rotF f (k + 1) m (m + 1)) (k + 1) k := by
  funext x
  unfold swpF
  by_cases h1 : x = k
  · subst h1
    rw [if_pos rfl]
    unfold rotF
    rw [if_pos (by omega), if_pos (by omega)]
    congr 1; omega
  · rw [if_neg h1]
    by_cases h2 : x = k + 1
    · subst h2
      rw [if_pos rfl]
      unfold rotF
      rw [if_neg (by omega), if_pos (by omega), if_neg (by omega), if_neg (by omega)]
      congr 1; omega
    · rw [if_neg h2]
      unfold rotF
      rw [if_neg (show ¬ (k ≤ x ∧ x < k + (m + 1 - m)) by omega), if_neg (show ¬ (k + 1 ≤ x ∧ x < k + 1 + (m + 1 - m)) by omega)]
      by_cases h4 : k + (m + 1 - m) ≤ x ∧ x < m + 1
      · rw [if_pos h4, if_pos (by omega)]
      · rw [if_neg h4, if_neg (by omega)]
theorem rot_none_left (f : Nat → α) (m e : Nat) : rotF f m m e = f := by
  funext x
  unfold rotF
  by_cases h1 : m ≤ x ∧ x < m + (e - m)
  · rw [if_pos h1]; congr 1; omega
  · rw [if_neg h1, if_neg (by omega)]
theorem rot_none_right (f : Nat → α) (s m : Nat) : rotF f s m m = f := by
  funext x
  unfold rotF
  rw [if_neg (by omega)]
  by_cases h1 : s + (m - m) ≤ x ∧ x < m
  · rw [if_pos h1]; congr 1; omega
  · rw [if_neg h1]
end Go.Proofs.YtnloommafgnanaaGreat.sm

/-
  The merge in place, plainly: what the binary searches find, and that the parts are in order behind it.
-/
namespace Go.Proofs.YtnloommafgnanaaGreat.sm
open Go.Sort

/-- What a binary search holds: yes below i, no from j on. -/
structure Srch (p : Nat → Bool) (lo hi i j : Nat) : Prop where
  il : lo ≤ i
  ij : i ≤ j
  jh : j ≤ hi
  yes : ∀ x, lo ≤ x → x < i → p x = true
  no : ∀ x, j ≤ x → x < hi → p x = false
theorem Srch.begin (p : Nat → Bool) {lo hi : Nat} (h : lo ≤ hi) : Srch p lo hi lo hi := ⟨Nat.le_refl _, h, Nat.le_refl _, fun x h1 h2 => by omega, fun x h1 h2 => by omega⟩
theorem Srch.up {p : Nat → Bool} {lo hi i j h : Nat} (hs : Srch p lo hi i j) (hm : ∀ x y, lo ≤ x → x ≤ y → y < hi → p y = true → p x = true) (h1 : i ≤ h) (h2 : h < j) (hp : p h = true) : Srch p lo hi (h + 1) j :=
  ⟨by have := hs.il; omega, by omega, hs.jh, fun x a b => hm x h a (by omega) (by have := hs.jh; omega) hp, hs.no⟩
theorem Srch.down {p : Nat → Bool} {lo hi i j h : Nat} (hs : Srch p lo hi i j) (hm : ∀ x y, lo ≤ x → x ≤ y → y < hi → p y = true → p x = true) (h1 : i ≤ h) (h2 : h < j) (hp : p h = false) : Srch p lo hi i h :=
  ⟨hs.il, h1, by have := hs.jh; omega, hs.yes, fun x a b => by
    cases hx : p x with
    | false => rfl
    | true =>
      have := hm h x (by have := hs.il; omega) a b hx
      rw [hp] at this
      cases this⟩

section
variable {α : Type} [Inhabited α] {lt c : α → α → Bool}
/-- What is there ahead of a merge. -/
structure Pre (c lt : α → α → Bool) (a m b : Nat) (d : Array α) : Prop where
  am : a < m
  mb : m < b
  bs : b ≤ d.size
  sl : SortedIn lt a m d
  sr : SortedIn lt m b d
  agree : ∀ i j, a ≤ i → i < m → m ≤ j → j < b → c d[j]! d[i]! = lt d[j]! d[i]!
structure Post (lt : α → α → Bool) (a b : Nat) (d d' : Array α) : Prop where
  perm : PermIn a b d d'
  sorted : SortedIn lt a b d'

theorem le_of_sorted (hS : SWO lt) {a b : Nat} {d : Array α} (h : SortedIn lt a b d) {i j : Nat} (ha : a ≤ i) (hij : i ≤ j) (hj : j < b) : lt d[j]! d[i]! = false := by
  rcases Nat.lt_or_ge i j with hl | hl
  · exact h i j ha hl hj
  · obtain rfl : i = j := by omega
    exact hS.irrefl _
/-- The first search (one to the left). -/
theorem anti1 (hS : SWO lt) {a m b : Nat} {d : Array α} (h : Pre c lt a m b d) : ∀ x y, m ≤ x → x ≤ y → y < b → c d[y]! d[a]! = true → c d[x]! d[a]! = true := by
  intro x y hx hxy hy hc
  have ham := h.am
  rw [h.agree a y (Nat.le_refl _) ham (by omega) hy] at hc
  rw [h.agree a x (Nat.le_refl _) ham hx (by omega)]
  cases hl : lt d[x]! d[a]! with
  | true => rfl
  | false =>
    have := hS.ntrans _ _ _ (le_of_sorted hS h.sr hx hxy hy) hl
    rw [hc] at this
    cases this
/-- The second (one to the right). -/
theorem anti2 (hS : SWO lt) {a m b : Nat} {d : Array α} (h : Pre c lt a m b d) : ∀ x y, a ≤ x → x ≤ y → y < m → (!c d[m]! d[y]!) = true → (!c d[m]! d[x]!) = true := by
  intro x y hx hxy hy hc
  have hmb := h.mb
  rw [h.agree y m (by omega) hy (Nat.le_refl _) hmb] at hc
  rw [h.agree x m hx (by omega) (Nat.le_refl _) hmb]
  simp only [Bool.not_eq_true'] at hc ⊢
  exact hS.ntrans _ _ _ hc (le_of_sorted hS h.sl hx hxy hy)
/-- The third. -/
theorem anti3 (hS : SWO lt) {a m b : Nat} {d : Array α} (h : Pre c lt a m b d) {lo hi q : Nat} (h1 : a ≤ lo) (h2 : hi ≤ m) (h3 : q < b + lo) (h4 : m + hi ≤ q + 1) :
    ∀ x y, lo ≤ x → x ≤ y → y < hi → (!c d[q - y]! d[y]!) = true → (!c d[q - x]! d[x]!) = true := by
  intro x y hx hxy hy hc
  rw [h.agree y (q - y) (by omega) (by omega) (by omega) (by omega)] at hc
  rw [h.agree x (q - x) (by omega) (by omega) (by omega) (by omega)]
  simp only [Bool.not_eq_true'] at hc ⊢
  have e1 := le_of_sorted hS h.sr (i := q - y) (j := q - x) (by omega) (by omega) (by omega)
  exact hS.ntrans _ _ _ (hS.ntrans _ _ _ e1 hc) (le_of_sorted hS h.sl (by omega) hxy (by omega))

theorem glue {a m b : Nat} {d : Array α} (h1 : SortedIn lt a m d) (h2 : SortedIn lt m b d) (h3 : ∀ i j, a ≤ i → i < m → m ≤ j → j < b → lt d[j]! d[i]! = false) : SortedIn lt a b d := by
  intro i j ha hij hj
  rcases Nat.lt_or_ge j m with hjm | hjm
  · exact h1 i j ha hij hjm
  · rcases Nat.lt_or_ge i m with him | him
    · exact h3 i j ha him hjm hj
    · exact h2 i j him hij hj

/-- The four parts behind the rotation. -/
structure Parts (lt : α → α → Bool) (a s mid e b : Nat) (d : Array α) : Prop where
  p1 : SortedIn lt a s d
  p2 : SortedIn lt s mid d
  p3 : SortedIn lt mid e d
  p4 : SortedIn lt e b d
  low : ∀ i j, a ≤ i → i < mid → mid ≤ j → j < b → lt d[j]! d[i]! = false
omit [Inhabited α] in
theorem rot_at (f : Nat → α) (s m e : Nat) (hsm : s ≤ m) (hme : m ≤ e) (x : Nat) :
    (x < s → rotF f s m e x = f x) ∧ (s ≤ x → x < s + (e - m) → rotF f s m e x = f (x - s + m)) ∧ (s + (e - m) ≤ x → x < e → rotF f s m e x = f (x - (e - m))) ∧ (e ≤ x → rotF f s m e x = f x) := by
  unfold rotF
  refine ⟨fun h => ?_, fun h1 h2 => ?_, fun h1 h2 => ?_, fun h => ?_⟩
  · rw [if_neg (by omega), if_neg (by omega)]
  · rw [if_pos (by omega)]
  · rw [if_neg (by omega), if_pos (by omega)]
  · rw [if_neg (by omega), if_neg (by omega)]
theorem parts {a m b s e : Nat} {d d' : Array α} (h : Pre c lt a m b d) (has : a ≤ s) (hsm : s ≤ m) (hme : m ≤ e) (heb : e ≤ b) (hd : ∀ x, x < d.size → d'[x]! = rotF (fun y => d[y]!) s m e x)
    (h2 : ∀ i j, a ≤ i → i < s → e ≤ j → j < b → lt d[j]! d[i]! = false) (h3 : ∀ i j, m ≤ i → i < e → s ≤ j → j < m → lt d[j]! d[i]! = false) : Parts lt a s (s + (e - m)) e b d' := by
  have hbs := h.bs
  have A : ∀ x, x < s → d'[x]! = d[x]! := fun x hx => (hd x (by omega)).trans ((rot_at _ s m e hsm hme x).1 hx)
  have B : ∀ x, s ≤ x → x < s + (e - m) → d'[x]! = d[x - s + m]! := fun x h1 h2 => (hd x (by omega)).trans ((rot_at _ s m e hsm hme x).2.1 h1 h2)
  have C : ∀ x, s + (e - m) ≤ x → x < e → d'[x]! = d[x - (e - m)]! := fun x h1 h2 => (hd x (by omega)).trans ((rot_at _ s m e hsm hme x).2.2.1 h1 h2)
  have D : ∀ x, e ≤ x → x < b → d'[x]! = d[x]! := fun x h1 h2 => (hd x (by omega)).trans ((rot_at _ s m e hsm hme x).2.2.2 h1)
  refine ⟨fun i j ha hij hj => ?_, fun i j ha hij hj => ?_, fun i j ha hij hj => ?_, fun i j ha hij hj => ?_, fun i j ha hi hj hjb => ?_⟩
  · rw [A i (by omega), A j hj]; exact h.sl i j ha hij (by omega)
  · rw [B i ha (by omega), B j (by omega) hj]; exact h.sr _ _ (by omega) (by omega) (by omega)
  · rw [C i ha (by omega), C j (by omega) hj]; exact h.sl _ _ (by omega) (by omega) (by omega)
  · rw [D i ha (by omega), D j (by omega) hj]; exact h.sr i j (by omega) hij hj
  · rcases Nat.lt_or_ge i s with his | his
    · rw [A i his]
      rcases Nat.lt_or_ge j e with hje | hje
      · rw [C j hj hje]; exact h.sl _ _ ha (by omega) (by omega)
      · rw [D j hje hjb]; exact h2 i j ha his hje hjb
    · rw [B i his hi]
      rcases Nat.lt_or_ge j e with hje | hje
      · rw [C j hj hje]; exact h3 _ _ (by omega) (by omega) (by omega) (by omega)
      · rw [D j hje hjb]; exact h.sr _ _ (by omega) (by omega) hjb
/-- One to the left. -/
theorem post1 (hS : SWO lt) {a b i : Nat} {d d' : Array α} (h : Pre c lt a (a + 1) b d) (hs : Srch (fun x => c d[x]! d[a]!) (a + 1) b i i) (hp : PermIn a b d d') (hd : ∀ x, x < d.size → d'[x]! = rotF (fun y => d[y]!) a (a + 1) i x) : Post lt a b d d' := by
  have hil := hs.il; have hib := hs.jh; have hmb := h.mb
  have yes : ∀ x, a + 1 ≤ x → x < i → lt d[x]! d[a]! = true := fun x h1 h2 => by rw [← h.agree a x (Nat.le_refl _) (by omega) h1 (by omega)]; exact hs.yes x h1 h2
  have no : ∀ x, i ≤ x → x < b → lt d[x]! d[a]! = false := fun x h1 h2 => by rw [← h.agree a x (Nat.le_refl _) (by omega) (by omega) h2]; exact hs.no x h1 h2
  have P := parts h (Nat.le_refl a) (by omega) hil hib hd (fun x y h1 h2 => by omega) (fun x y h1 h2 h3 h4 => by
    obtain rfl : y = a := by omega
    exact hS.asymmA (yes x h1 h2))
  refine ⟨hp, glue P.p2 (glue P.p3 P.p4 fun x y h1 h2 h3 h4 => ?_) P.low⟩
  have e1 : d'[x]! = d[a]! := by
    have := (rot_at (fun y => d[y]!) a (a + 1) i (by omega) hil x).2.2.1 h1 h2
    rw [hd x (by have := h.bs; omega), this]
    congr 1; omega
  have e2 : d'[y]! = d[y]! := by rw [hd y (by have := h.bs; omega)]; exact (rot_at (fun y => d[y]!) a (a + 1) i (by omega) hil y).2.2.2 h3
  rw [e1, e2]
  exact no y h3 h4
/-- One to the right. -/
theorem post2 (hS : SWO lt) {a m i : Nat} {d d' : Array α} (h : Pre c lt a m (m + 1) d) (hs : Srch (fun x => !c d[m]! d[x]!) a m i i) (hp : PermIn a (m + 1) d d') (hd : ∀ x, x < d.size → d'[x]! = rotF (fun y => d[y]!) i m (m + 1) x) : Post lt a (m + 1) d d' := by
  have hil := hs.il; have hib := hs.jh; have ham := h.am
  have yes : ∀ x, a ≤ x → x < i → lt d[m]! d[x]! = false := fun x h1 h2 => by
    have := hs.yes x h1 h2
    rw [h.agree x m h1 (by omega) (Nat.le_refl _) (by omega)] at this
    simpa using this
  have no : ∀ x, i ≤ x → x < m → lt d[m]! d[x]! = true := fun x h1 h2 => by
    have := hs.no x h1 h2
    rw [h.agree x m (by omega) h2 (Nat.le_refl _) (by omega)] at this
    simpa using this
  have P := parts h hil hib (Nat.le_succ m) (Nat.le_refl _) hd (fun x y h1 h2 h3 h4 => by omega) (fun x y h1 h2 h3 h4 => by
    obtain rfl : x = m := by omega
    exact hS.asymmA (no y h3 h4))
  have hmid : i + (m + 1 - m) = i + 1 := by omega
  rw [hmid] at P
  refine ⟨hp, glue (glue P.p1 P.p2 fun x y h1 h2 h3 h4 => ?_) P.p3 P.low⟩
  have e1 : d'[x]! = d[x]! := by rw [hd x (by have := h.bs; omega)]; exact (rot_at (fun y => d[y]!) i m (m + 1) hib (Nat.le_succ m) x).1 h2
  have e2 : d'[y]! = d[m]! := by
    have := (rot_at (fun y => d[y]!) i m (m + 1) hib (Nat.le_succ m) y).2.1 h3 (by omega)
    rw [hd y (by have := h.bs; omega), this]
    congr 1; omega
  rw [e1, e2]
  exact yes x h1 h2
/-- The parts in the general case: lo and hi as the code takes them. -/
theorem parts3 (hS : SWO lt) {a m b mid lo hi i : Nat} {d d' : Array α} (h : Pre c lt a m b d) (hmid : 2 * mid ≤ a + b) (hlo : lo = if mid < m then mid + m - b else a) (hhi : hi = if mid < m then mid else m) (hmid2 : a + b ≤ 2 * mid + 1)
    (hs : Srch (fun x => !c d[mid + m - 1 - x]! d[x]!) lo hi i i) (hd : ∀ x, x < d.size → d'[x]! = rotF (fun y => d[y]!) i m (mid + m - i) x) :
    a ≤ i ∧ i ≤ m ∧ i ≤ mid ∧ m ≤ mid + m - i ∧ mid ≤ mid + m - i ∧ mid + m - i ≤ b ∧ Parts lt a i mid (mid + m - i) b d' := by
  have hil := hs.il; have hib := hs.jh; have ham := h.am; have hmb := h.mb
  have hcase : (mid < m ∧ lo = mid + m - b ∧ hi = mid) ∨ (m ≤ mid ∧ lo = a ∧ hi = m) := by
    by_cases hc : mid < m
    · rw [if_pos hc] at hlo hhi; exact .inl ⟨hc, hlo, hhi⟩
    · rw [if_neg hc] at hlo hhi; exact .inr ⟨by omega, hlo, hhi⟩
  clear hlo hhi
  have g1 : a ≤ i := by rcases hcase with ⟨_, e, _⟩ | ⟨_, e, _⟩ <;> omega
  have g2 : i ≤ m := by rcases hcase with ⟨_, _, e⟩ | ⟨_, _, e⟩ <;> omega
  have g3 : i ≤ mid := by rcases hcase with ⟨_, _, e⟩ | ⟨_, _, e⟩ <;> omega
  have g4 : mid + m - i ≤ b := by rcases hcase with ⟨_, e, _⟩ | ⟨_, e, _⟩ <;> omega
  have P := parts h g1 g2 (by omega) g4 hd (fun x y k1 k2 k3 k4 => by
    -- from the search, below i
    have hlt : lo < i := by rcases hcase with ⟨_, e, _⟩ | ⟨_, e, _⟩ <;> omega
    have hy := hs.yes (i - 1) (by omega) (by omega)
    have eq : mid + m - 1 - (i - 1) = mid + m - i := by omega
    rw [eq, h.agree (i - 1) (mid + m - i) (by omega) (by omega) (by omega) (by omega)] at hy
    simp only [Bool.not_eq_true'] at hy
    have e1 := le_of_sorted hS h.sr (i := mid + m - i) (j := y) (by omega) k3 k4
    have e2 := le_of_sorted hS h.sl (i := x) (j := i - 1) k1 (by omega) (by omega)
    exact hS.ntrans _ _ _ (hS.ntrans _ _ _ e1 hy) e2) (fun x y k1 k2 k3 k4 => by
    have hlt : i < hi := by rcases hcase with ⟨_, _, e⟩ | ⟨_, _, e⟩ <;> omega
    have hy := hs.no i (Nat.le_refl _) hlt
    rw [h.agree i (mid + m - 1 - i) (by omega) (by omega) (by omega) (by omega)] at hy
    simp only [Bool.not_eq_false'] at hy
    have e0 := hS.asymmA hy
    have e1 := le_of_sorted hS h.sl (i := i) (j := y) (by omega) k3 k4
    have e2 := le_of_sorted hS h.sr (i := x) (j := mid + m - 1 - i) k1 (by omega) (by omega)
    exact hS.ntrans _ _ _ (hS.ntrans _ _ _ e1 e0) e2)
  have emid : i + (mid + m - i - m) = mid := by omega
  rw [emid] at P
  exact ⟨g1, g2, g3, by omega, by omega, g4, P⟩
end
end Go.Proofs.YtnloommafgnanaaGreat.sm
namespace Go.Proofs.YtnloommafgnanaaGreat.sm
open Go.Sort
section
variable {α : Type} [Inhabited α] {lt c : α → α → Bool}
/-- How the turned row reads. -/
structure Rot (i m e b : Nat) (d d1 : Array α) : Prop where
  im : i ≤ m
  me : m ≤ e
  eb : e ≤ b
  bs : b ≤ d.size
  size : d1.size = d.size
  at_ : ∀ x, x < d.size → d1[x]! = rotF (fun y => d[y]!) i m e x
theorem Rot.lo {i m e b : Nat} {d d1 : Array α} (h : Rot i m e b d d1) {x : Nat} (hx : x < i) : d1[x]! = d[x]! := (h.at_ x (by have := h.im; have := h.me; have := h.eb; have := h.bs; omega)).trans ((rot_at _ i m e h.im h.me x).1 hx)
theorem Rot.mr {i m e b : Nat} {d d1 : Array α} (h : Rot i m e b d d1) {x : Nat} (h1 : i ≤ x) (h2 : x < i + (e - m)) : d1[x]! = d[x - i + m]! := (h.at_ x (by have := h.im; have := h.me; have := h.eb; have := h.bs; omega)).trans ((rot_at _ i m e h.im h.me x).2.1 h1 h2)
theorem Rot.ml {i m e b : Nat} {d d1 : Array α} (h : Rot i m e b d d1) {x : Nat} (h1 : i + (e - m) ≤ x) (h2 : x < e) : d1[x]! = d[x - (e - m)]! := (h.at_ x (by have := h.im; have := h.me; have := h.eb; have := h.bs; omega)).trans ((rot_at _ i m e h.im h.me x).2.2.1 h1 h2)
theorem Rot.hi {i m e b : Nat} {d d1 : Array α} (h : Rot i m e b d d1) {x : Nat} (h1 : e ≤ x) (h2 : x < b) : d1[x]! = d[x]! := (h.at_ x (by have := h.im; have := h.me; have := h.eb; have := h.bs; omega)).trans ((rot_at _ i m e h.im h.me x).2.2.2 h1)
theorem pre_low {a i m e b mid : Nat} {d d1 : Array α} (hP : Pre c lt a m b d) (hR : Rot i m e b d d1) (hmid : i + (e - m) = mid) (P : Parts lt a i mid e b d1) (h1 : a < i) (h2 : i < mid) : Pre c lt a i mid d1 := by
  have := hR.im; have := hR.me; have := hR.eb; have := hR.bs; have := hR.size
  refine ⟨h1, h2, by omega, P.p1, P.p2, fun x y k1 k2 k3 k4 => ?_⟩
  rw [hR.lo k2, hR.mr k3 (by omega)]
  exact hP.agree _ _ k1 (by omega) (by omega) (by omega)
theorem sorted_congr {a b : Nat} {d d' : Array α} (h : SortedIn lt a b d) (he : ∀ x, a ≤ x → x < b → d'[x]! = d[x]!) : SortedIn lt a b d' := fun i j h1 h2 h3 => by
  rw [he i h1 (by omega), he j (by omega) h3]; exact h i j h1 h2 h3
theorem pre_high {a i m e b mid : Nat} {d d1 d2 : Array α} (hP : Pre c lt a m b d) (hR : Rot i m e b d d1) (hmid : i + (e - m) = mid) (P : Parts lt a i mid e b d1) (hp : PermIn a mid d1 d2) (h0 : a ≤ i) (h1 : mid < e) (h2 : e < b) : Pre c lt mid e b d2 := by
  have := hR.im; have := hR.me; have := hR.eb; have := hR.bs; have := hR.size; have hs2 := hp.1
  have E : ∀ x, mid ≤ x → d2[x]! = d1[x]! := fun x hx => hp.2.1 x (.inr hx)
  refine ⟨h1, h2, by omega, sorted_congr P.p3 fun x k1 _ => E x k1, sorted_congr P.p4 fun x k1 _ => E x (by omega), fun x y k1 k2 k3 k4 => ?_⟩
  rw [E x k1, E y (by omega), hR.ml (by omega) k2, hR.hi k3 k4]
  exact hP.agree _ _ (by omega) (by omega) (by omega) (by omega)
theorem low_sorted {a i mid e b : Nat} {d1 : Array α} (P : Parts lt a i mid e b d1) (h : ¬ (a < i ∧ i < mid)) (h0 : a ≤ i) (h1 : i ≤ mid) : SortedIn lt a mid d1 := by
  rcases Nat.lt_or_ge a i with hl | hl
  · obtain rfl : i = mid := by omega
    exact P.p1
  · obtain rfl : a = i := by omega
    exact P.p2
theorem high_sorted {a i mid e b : Nat} {d1 d2 : Array α} (P : Parts lt a i mid e b d1) (hp : PermIn a mid d1 d2) (h : ¬ (mid < e ∧ e < b)) (h0 : mid ≤ e) (h1 : e ≤ b) : SortedIn lt mid b d2 := by
  refine sorted_congr (d := d1) ?_ fun x hx _ => hp.2.1 x (.inr hx)
  rcases Nat.lt_or_ge mid e with hl | hl
  · obtain rfl : e = b := by omega
    exact P.p3
  · obtain rfl : mid = e := by omega
    exact P.p4
theorem whole_post {a i mid e b : Nat} {d d1 d2 d3 : Array α} (h1 : a ≤ mid) (h2 : mid ≤ b) (hb : b ≤ d.size) (P : Parts lt a i mid e b d1) (p1 : PermIn a b d d1) (p2 : PermIn a mid d1 d2) (s2 : SortedIn lt a mid d2) (p3 : PermIn mid b d2 d3) (s3 : SortedIn lt mid b d3) : Post lt a b d d3 := by
  have e1 := p1.1; have e2 := p2.1; have e3 := p3.1
  have A : ∀ x, a ≤ x → x < mid → ∀ y, mid ≤ y → y < b → lt d3[y]! d3[x]! = false := by
    intro x hx1 hx2
    have ex : d3[x]! = d2[x]! := p3.2.1 x (.inl hx2)
    refine permIn_all d2 d3 mid b (fun v => lt v d3[x]! = false) (by omega) p3 ?_
    intro y hy1 hy2
    rw [ex]
    have ey : d2[y]! = d1[y]! := p2.2.1 y (.inr hy1)
    rw [ey]
    exact permIn_all d1 d2 a mid (fun v => lt d1[y]! v = false) (by omega) p2 (fun z hz1 hz2 => P.low z y hz1 hz2 hy1 hy2) x hx1 hx2
  refine ⟨permIn_trans _ _ _ _ _ p1 (permIn_trans _ _ _ _ _ (permIn_mono _ _ _ _ _ _ (Nat.le_refl _) h2 (by omega) p2) (permIn_mono _ _ _ _ _ _ h1 (Nat.le_refl _) (by omega) p3)), glue (sorted_congr s2 fun x _ hx => p3.2.1 x (.inl hx)) s3 fun x y k1 k2 k3 k4 => A x k1 k2 y k3 k4⟩
end
end Go.Proofs.YtnloommafgnanaaGreat.sm
