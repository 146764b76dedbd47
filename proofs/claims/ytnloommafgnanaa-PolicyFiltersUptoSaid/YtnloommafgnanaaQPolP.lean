/-
  policy.Rule, plainly.
-/
import Derived.Test.YtnloommafgnanaaQNameE
import Derived.Test.YtnloommafgnanaaQDataS
namespace Go.Proofs.Ytnloommafgnanaa
open Go.Proofs.Ytnloommafgnanaa.nm

/-- A rule. -/
structure Rul where
  name : ByteArray
  below : Bool
  kind : Int
  typ : Int
  ttl : Int
  data : ByteArray
  deriving DecidableEq, Inhabited

namespace pf
def rightB (r : Rul) : Bool := checkB r.name && decide (0 ≤ r.kind) && decide (r.kind ≤ 4) && (!decide (r.kind = 4) || decide (dt.chkI r.typ r.data = 0) && decide (0 ≤ r.ttl) && decide (r.ttl ≤ 2147483647))
/-- Does a rule count for a name? -/
def hitB (n : ByteArray) (r : Rul) : Bool := rightB r && if r.below then !equalB n r.name && withinB n r.name else equalB n r.name
/-- One rule more. -/
def stepR (l : List Rul) (n : ByteArray) (k : Nat) : Option Nat → Option Nat
  | none => if hitB n l[k]! = true then some k else none
  | some b => if hitB n l[k]! = true ∧ l[b]!.below = true ∧ (l[k]!.below = false ∨ countI l[b]!.name < countI l[k]!.name) then some k else some b
def bestTo (l : List Rul) (n : ByteArray) : Nat → Option Nat
  | 0 => none
  | k + 1 => stepR l n k (bestTo l n k)
/-- The reference's second loop. -/
def stepB (l : List Rul) (n : ByteArray) (k : Nat) : Option Nat → Option Nat
  | none => if hitB n l[k]! = true ∧ l[k]!.below = true then some k else none
  | some b => if hitB n l[k]! = true ∧ l[k]!.below = true ∧ countI l[b]!.name < countI l[k]!.name then some k else some b
def belowTo (l : List Rul) (n : ByteArray) : Nat → Option Nat
  | 0 => none
  | k + 1 => stepB l n k (belowTo l n k)
def ruleO (l : List Rul) (n : ByteArray) : Option Nat := bestTo l n l.length
def optI : Option Nat → Int
  | none => -1
  | some k => k
def exactB (n : ByteArray) (r : Rul) : Bool := hitB n r && !r.below

theorem bestTo_hit (l : List Rul) (n : ByteArray) : ∀ (k b : Nat), bestTo l n k = some b → b < k ∧ hitB n l[b]! = true
  | 0, b, h => by cases h
  | k + 1, b, h => by
    rw [bestTo] at h
    cases hb : bestTo l n k with
    | none =>
      rw [hb] at h
      simp only [stepR] at h
      split at h
      · rename_i hh
        cases h
        exact ⟨by omega, hh⟩
      · cases h
    | some c =>
      have ih := bestTo_hit l n k c hb
      rw [hb] at h
      simp only [stepR] at h
      split at h
      · rename_i hh
        cases h
        exact ⟨by omega, hh.1⟩
      · cases h
        exact ⟨by omega, ih.2⟩
theorem bestTo_below {l : List Rul} {n : ByteArray} {e : Nat} (hno : ∀ j, j < e → exactB n l[j]! = false) {b : Nat} (h : bestTo l n e = some b) : l[b]!.below = true := by
  obtain ⟨h1, h2⟩ := bestTo_hit l n e b h
  have h3 := hno b h1
  unfold exactB at h3
  rw [h2] at h3
  simpa using h3
theorem bestTo_exact {l : List Rul} {n : ByteArray} {e : Nat} (hno : ∀ j, j < e → exactB n l[j]! = false) (he : exactB n l[e]! = true) : ∀ d, bestTo l n (e + 1 + d) = some e
  | 0 => by
    unfold exactB at he
    simp only [Bool.and_eq_true, Bool.not_eq_true'] at he
    rw [Nat.add_zero, bestTo]
    cases hb : bestTo l n e with
    | none => simp only [stepR]; rw [if_pos he.1]
    | some b => simp only [stepR]; rw [if_pos ⟨he.1, bestTo_below hno hb, .inl he.2⟩]
  | d + 1 => by
    rw [show e + 1 + (d + 1) = (e + 1 + d) + 1 by omega, bestTo, bestTo_exact hno he d]
    unfold exactB at he
    simp only [Bool.and_eq_true, Bool.not_eq_true'] at he
    simp only [stepR]
    rw [if_neg]
    intro h
    rw [he.2] at h
    exact absurd h.2.1 (by simp)
theorem bestTo_plain {l : List Rul} {n : ByteArray} : ∀ (k : Nat), (∀ j, j < k → exactB n l[j]! = false) → bestTo l n k = belowTo l n k
  | 0, _ => rfl
  | k + 1, hno => by
    have ih := bestTo_plain k (fun j h => hno j (by omega))
    have hk := hno k (by omega)
    have hkb : hitB n l[k]! = true → l[k]!.below = true := fun h => by
      unfold exactB at hk
      rw [h] at hk
      simpa using hk
    rw [bestTo, belowTo, ih]
    cases hb : belowTo l n k with
    | none =>
      simp only [stepR, stepB]
      by_cases h : hitB n l[k]! = true
      · rw [if_pos h, if_pos ⟨h, hkb h⟩]
      · rw [if_neg h, if_neg (fun x => h x.1)]
    | some b =>
      have hbb := bestTo_below (l := l) (n := n) (e := k) (fun j h => hno j (by omega)) (b := b) (by rw [ih]; exact hb)
      simp only [stepR, stepB]
      by_cases h : hitB n l[k]! = true
      · have h2 := hkb h
        by_cases hc : countI l[b]!.name < countI l[k]!.name
        · rw [if_pos ⟨h, hbb, .inr hc⟩, if_pos ⟨h, h2, hc⟩]
        · rw [if_neg (fun x => x.2.2.elim (fun y => by rw [h2] at y; cases y) hc), if_neg (fun x => hc x.2.2)]
      · rw [if_neg (fun x => h x.1), if_neg (fun x => h x.1)]
theorem ruleO_exact {l : List Rul} {n : ByteArray} {e : Nat} (hl : e < l.length) (hno : ∀ j, j < e → exactB n l[j]! = false) (he : exactB n l[e]! = true) : ruleO l n = some e := by
  have := bestTo_exact hno he (l.length - (e + 1))
  unfold ruleO
  rw [show e + 1 + (l.length - (e + 1)) = l.length by omega] at this
  exact this
theorem ruleO_plain {l : List Rul} {n : ByteArray} (hno : ∀ j, j < l.length → exactB n l[j]! = false) : ruleO l n = belowTo l n l.length := bestTo_plain _ hno
end pf
end Go.Proofs.Ytnloommafgnanaa
