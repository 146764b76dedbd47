/-
  The fairness of the limiter, plainly: what has been allowed and what is left never pass what was given.
-/
import Derived.Test.YtnbdlaedbbcnjaaLimPlain
namespace Go.Proofs.Ytnbdlaedbbcnjaa.lim

/-- What holds between two askings of one: nobody was seen, or one who has at most what was given. -/
def Fair (rate burst now : Int) (who : ByteArray) (S : List One) (ts : List Int) : Prop :=
  (S = [] ∧ ts = []) ∨ ∃ left, S = [(who, left, now)] ∧ 0 ≤ left ∧ left ≤ burst ∧ ∀ (j : Nat) (x : Int), ts[j]? = some x → 0 ≤ x ∧ x ≤ now ∧ ts.length - j + left ≤ burst + rate * (now - x)

theorem refill_le {rate burst now left at_ : Int} (hr : 0 ≤ rate) (ht : at_ ≤ now) :
    (refill rate burst now (left, at_)).1 ≤ left + rate * (now - at_) ∧ (refill rate burst now (left, at_)).2 = now := by
  have hm : 0 ≤ rate * (now - at_) := Int.mul_nonneg hr (by omega)
  unfold refill
  split
  · rename_i hlt
    dsimp only at hlt ⊢
    refine ⟨?_, rfl⟩
    split
    · have : rate * min (now - at_) burst ≤ rate * (now - at_) := Int.mul_le_mul_of_nonneg_left (by omega) hr
      omega
    · omega
  · rename_i hlt
    dsimp only at hlt ⊢
    have : at_ = now := by omega
    subst this
    exact ⟨by omega, rfl⟩

/-- One asking more, of an address. -/
theorem fair_step {rate burst now d : Int} {who : ByteArray} {S : List One} {ts : List Int} (hr : 0 ≤ rate) (hb : 1 ≤ burst) (hn : 0 ≤ now) (hd : 0 ≤ d) (h : Fair rate burst now who S ts) :
    ((ask rate burst (now + d) S who).1 = true ∧ Fair rate burst (now + d) who (ask rate burst (now + d) S who).2 (ts ++ [now + d])) ∨
    ((ask rate burst (now + d) S who).1 = false ∧ S ≠ [] ∧ Fair rate burst (now + d) who (ask rate burst (now + d) S who).2 ts) := by
  rcases h with ⟨rfl, rfl⟩ | ⟨left, rfl, h0, h1, hts⟩
  · left
    have he : enter burst (now + d) [] who = ([(who, burst, now + d)], 0) := by simp [enter, place]
    have hrf : refill rate burst (now + d) (burst, now + d) = (burst, now + d) := by simp [refill]
    have hask := ask_at (rate := rate) (burst := burst) (now := now + d) (S := []) (who := who) (w' := who) (x := (burst, now + d)) (by rw [he]; rfl)
    rw [hrf, he, if_neg (by dsimp only; omega)] at hask
    rw [hask]
    refine ⟨rfl, .inr ⟨burst - 1, rfl, by omega, by omega, fun j x hj => ?_⟩⟩
    cases j with
    | zero =>
      simp only [List.nil_append, List.getElem?_cons_zero, Option.some.injEq] at hj
      subst hj
      simp
      omega
    | succ j => simp at hj
  · have hp : place [(who, left, now)] who = 0 := by simp [place]
    have he : enter burst (now + d) [(who, left, now)] who = ([(who, left, now)], 0) := by simp [enter, hp]
    have hask := ask_at (rate := rate) (burst := burst) (now := now + d) (S := [(who, left, now)]) (who := who) (w' := who) (x := (left, now)) (by rw [he]; rfl)
    rw [he] at hask
    obtain ⟨hl, ht⟩ := refill_le (rate := rate) (burst := burst) (now := now + d) (left := left) (at_ := now) hr (by omega)
    obtain ⟨hl0, hl1⟩ := refill_left (rate := rate) (burst := burst) (now := now + d) (x := (left, now)) hr hb h0 h1
    have hd2 : now + d - now = d := by omega
    rw [hd2] at hl
    generalize refill rate burst (now + d) (left, now) = y at *
    obtain ⟨yl, yt⟩ := y
    dsimp only at hl ht hl0 hl1 hask
    subst ht
    have hmul : ∀ x : Int, rate * (now + d - x) = rate * (now - x) + rate * d := fun x => by
      rw [show now + d - x = (now - x) + d from by omega, Int.mul_add]
    have hmd : 0 ≤ rate * d := Int.mul_nonneg hr hd
    by_cases hz : yl = 0
    · right
      rw [if_pos hz] at hask
      rw [hask]
      refine ⟨rfl, by simp, .inr ⟨yl, rfl, hl0, hl1, fun j x hj => ?_⟩⟩
      obtain ⟨a, b, c⟩ := hts j x hj
      refine ⟨a, by omega, ?_⟩
      rw [hmul]
      omega
    · left
      rw [if_neg hz] at hask
      rw [hask]
      refine ⟨rfl, .inr ⟨yl - 1, rfl, by omega, by omega, fun j x hj => ?_⟩⟩
      rcases Nat.lt_or_ge j ts.length with hjl | hjl
      · rw [List.getElem?_append_left hjl] at hj
        obtain ⟨a, b, c⟩ := hts j x hj
        refine ⟨a, by omega, ?_⟩
        rw [hmul, List.length_append]
        simp
        omega
      · rw [List.getElem?_append_right hjl] at hj
        have hj0 : j - ts.length = 0 := by
          rcases Nat.eq_zero_or_pos (j - ts.length) with h0 | h0
          · exact h0
          · obtain ⟨i, hi⟩ : ∃ i, j - ts.length = i + 1 := ⟨j - ts.length - 1, by omega⟩
            rw [hi] at hj; simp at hj
        rw [hj0] at hj
        simp only [List.getElem?_cons_zero, Option.some.injEq] at hj
        subst hj
        refine ⟨by omega, Int.le_refl _, ?_⟩
        rw [List.length_append]
        simp
        omega

/-- What the law asks of every time that was allowed. -/
theorem fair_ok {rate burst now : Int} {who : ByteArray} {S : List One} {ts : List Int} (h : Fair rate burst now who S ts) {j : Nat} {x : Int} (hj : ts[j]? = some x) :
    0 ≤ x ∧ x ≤ now ∧ (ts.length : Int) - j ≤ burst + rate * (now - x) := by
  rcases h with ⟨rfl, rfl⟩ | ⟨left, rfl, h0, h1, hts⟩
  · simp at hj
  · obtain ⟨a, b, c⟩ := hts j x hj
    exact ⟨a, b, by omega⟩
end Go.Proofs.Ytnbdlaedbbcnjaa.lim
