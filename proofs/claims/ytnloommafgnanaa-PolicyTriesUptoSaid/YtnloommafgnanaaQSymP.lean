/-
  The stable sort of the library, plainly: exchanges of parts, and the merge in place.
-/
import Derived.Sort.LotA
namespace Go.Proofs.Ytnloommafgnanaa.sm
open Go.Sort
variable {α : Type}

/-- Two parts of n exchanged. -/
def swrF (f : Nat → α) (a b n x : Nat) : α := if a ≤ x ∧ x < a + n then f (x - a + b) else if b ≤ x ∧ x < b + n then f (x - b + a) else f x
/-- The parts [s, m) and [m, e) in the other order. -/
def rotF (f : Nat → α) (s m e x : Nat) : α := if s ≤ x ∧ x < s + (e - m) then f (x - s + m) else if s + (e - m) ≤ x ∧ x < e then f (x - (e - m)) else f x
/-- Two places exchanged. -/
def swpF (f : Nat → α) (i j x : Nat) : α := if x = j then f i else if x = i then f j else f x

theorem swr_zero (f : Nat → α) (a b : Nat) : swrF f a b 0 = f := by
  funext x; unfold swrF; rw [if_neg (by omega), if_neg (by omega)]
theorem swr_step (f : Nat → α) (a b n : Nat) (h : a + n < b) : swrF f a b (n + 1) = swpF (swrF f a b n) (a + n) (b + n) := by
  funext x
  unfold swpF
  by_cases h1 : x = b + n
  · subst h1
    rw [if_pos rfl]
    unfold swrF
    rw [if_neg (by omega), if_pos (by omega), if_neg (by omega), if_neg (by omega)]
    congr 1; omega
  · rw [if_neg h1]
    by_cases h2 : x = a + n
    · subst h2
      rw [if_pos rfl]
      unfold swrF
      rw [if_pos (by omega), if_neg (by omega), if_neg (by omega)]
      congr 1; omega
    · rw [if_neg h2]
      unfold swrF
      by_cases h3 : a ≤ x ∧ x < a + n
      · rw [if_pos h3, if_pos (by omega)]
      · rw [if_neg h3, if_neg (by omega)]
        by_cases h4 : b ≤ x ∧ x < b + n
        · rw [if_pos h4, if_pos (by omega)]
        · rw [if_neg h4, if_neg (by omega)]
theorem swp_at [Inhabited α] (d : Array α) {i j : Nat} (hi : i < d.size) (hj : j < d.size) (x : Nat) : (swp d i j)[x]! = swpF (fun y => d[y]!) i j x := by
  unfold swpF
  by_cases h1 : x = j
  · subst h1; rw [if_pos rfl]; exact swp_right d i x hj
  · rw [if_neg h1]
    by_cases h2 : x = i
    · subst h2; rw [if_pos rfl]; exact swp_left d x j hi h1
    · rw [if_neg h2]; exact swp_other d i j x h2 h1

/-- The rounds of rotate. -/
theorem rot_more (f : Nat → α) (m i j : Nat) (hij : j < i) (him : i ≤ m) : rotF f (m - i) m (m + j) = rotF (swrF f (m - i) m j) (m - i + j) m (m + j) := by
  funext x
  unfold rotF
  by_cases h1 : m - i ≤ x ∧ x < m - i + (m + j - m)
  · rw [if_pos h1, if_neg (by omega), if_neg (by omega)]
    unfold swrF; rw [if_pos (by omega)]
  · rw [if_neg h1]
    by_cases h2 : m - i + j ≤ x ∧ x < m - i + j + (m + j - m)
    · rw [if_pos h2, if_pos (by omega)]
      unfold swrF; rw [if_neg (by omega), if_pos (by omega)]
      congr 1; omega
    · rw [if_neg h2]
      by_cases h3 : m - i + (m + j - m) ≤ x ∧ x < m + j
      · rw [if_pos h3, if_pos (by omega)]
        unfold swrF; rw [if_neg (by omega), if_neg (by omega)]
      · rw [if_neg h3, if_neg (by omega)]
        unfold swrF; rw [if_neg (by omega), if_neg (by omega)]
theorem rot_less (f : Nat → α) (m i j : Nat) (hij : i < j) (him : i ≤ m) : rotF f (m - i) m (m + j) = rotF (swrF f (m - i) (m + j - i) i) (m - i) m (m + (j - i)) := by
  funext x
  unfold rotF
  by_cases h1 : m - i ≤ x ∧ x < m - i + (m + (j - i) - m)
  · rw [if_pos (by omega), if_pos h1]
    unfold swrF
    by_cases h2 : m - i ≤ x - (m - i) + m ∧ x - (m - i) + m < m - i + i
    · omega
    · rw [if_neg h2]
      by_cases h3 : m + j - i ≤ x - (m - i) + m ∧ x - (m - i) + m < m + j - i + i
      · omega
      · rw [if_neg h3]
  · rw [if_neg h1]
    by_cases h2 : m - i + (m + (j - i) - m) ≤ x ∧ x < m + (j - i)
    · rw [if_pos h2, if_pos (by omega)]
      unfold swrF; rw [if_pos (by omega)]
      congr 1; omega
    · rw [if_neg h2]
      by_cases h3 : m - i + (m + j - m) ≤ x ∧ x < m + j
      · rw [if_neg (by omega), if_pos h3]
        unfold swrF; rw [if_neg (by omega), if_pos (by omega)]
        congr 1; omega
      · rw [if_neg (by omega), if_neg h3]
        unfold swrF; rw [if_neg (by omega), if_neg (by omega)]
theorem rot_same (f : Nat → α) (m i : Nat) (him : i ≤ m) : rotF f (m - i) m (m + i) = swrF f (m - i) m i := by
  funext x
  unfold rotF swrF
  by_cases h1 : m - i ≤ x ∧ x < m - i + i
  · rw [if_pos (by omega), if_pos h1]
  · rw [if_neg (by omega), if_neg h1]
    by_cases h2 : m ≤ x ∧ x < m + i
    · rw [if_pos (by omega), if_pos h2]; congr 1; omega
    · rw [if_neg (by omega), if_neg h2]
/-- A shift of one place to the right, by exchanges; and to the left. -/
theorem rot_right (f : Nat → α) (a k : Nat) (h : a < k) : rotF f a (a + 1) (k + 1) = swpF (rotF f a (a + 1) k) (k - 1) k := by
  funext x
  unfold swpF
  by_cases h1 : x = k
  · subst h1
    rw [if_pos rfl]
    unfold rotF
    rw [if_neg (by omega), if_pos (by omega)]
    by_cases h2 : a ≤ x - 1 ∧ x - 1 < a + (x - (a + 1))
    · omega
    · rw [if_neg h2, if_pos (by omega)]; congr 1; omega
  · rw [if_neg h1]
    by_cases h2 : x = k - 1
    · subst h2
      rw [if_pos rfl]
      unfold rotF
      rw [if_pos (by omega), if_neg (by omega), if_neg (by omega)]
      congr 1; omega
    · rw [if_neg h2]
      unfold rotF
      by_cases h3 : a ≤ x ∧ x < a + (k - (a + 1))
      · rw [if_pos h3, if_pos (by omega)]
      · rw [if_neg h3, if_neg (by omega)]
        by_cases h4 : a + (k - (a + 1)) ≤ x ∧ x < k
        · omega
        · rw [if_neg h4, if_neg (by omega)]
theorem rot_left (f : Nat → α) (m k : Nat) (h : k < m) : rotF f k m (m + 1) = swpF (rotF f (k + 1) m (m + 1)) (k + 1) k := by
  funext x
  unfold swpF
  by_cases h1 : x = k
  · subst h1
    rw [if_pos rfl]
    unfold rotF
    rw [if_pos (by omega), if_pos (by omega)]
    congr 1; omega
  · rw [if_neg h1]
    by_cases h2 : x = k + 1
    · subst h2
      rw [if_pos rfl]
      unfold rotF
      rw [if_neg (by omega), if_pos (by omega), if_neg (by omega), if_neg (by omega)]
      congr 1; omega
    · rw [if_neg h2]
      unfold rotF
      rw [if_neg (show ¬ (k ≤ x ∧ x < k + (m + 1 - m)) by omega), if_neg (show ¬ (k + 1 ≤ x ∧ x < k + 1 + (m + 1 - m)) by omega)]
      by_cases h4 : k + (m + 1 - m) ≤ x ∧ x < m + 1
      · rw [if_pos h4, if_pos (by omega)]
      · rw [if_neg h4, if_neg (by omega)]
theorem rot_none_left (f : Nat → α) (m e : Nat) : rotF f m m e = f := by
  funext x
  unfold rotF
  by_cases h1 : m ≤ x ∧ x < m + (e - m)
  · rw [if_pos h1]; congr 1; omega
  · rw [if_neg h1, if_neg (by omega)]
theorem rot_none_right (f : Nat → α) (s m : Nat) : rotF f s m m = f := by
  funext x
  unfold rotF
  rw [if_neg (by omega)]
  by_cases h1 : s + (m - m) ≤ x ∧ x < m
  · rw [if_pos h1]; congr 1; omega
  · rw [if_neg h1]
end Go.Proofs.Ytnloommafgnanaa.sm
