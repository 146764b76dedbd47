/-
  A region that draws its order, gone through by what is known of its slots: one step for each operation, whatever has come up ahead of it.
-/
import Derived.Orders
import Derived.WalkKit
namespace Go.Proofs.Ytnloommafgnanaa
open Go

/-- A frame with some slots told anew. -/
def fillA (a : Act) (g : Nat → Option Value) : Act := { a with tmps := a.tmps.mapIdx fun t v => (g t).getD v }
def updG (g : Nat → Option Value) (t : Nat) (v : Value) : Nat → Option Value := fun s => if s = t then some v else g s
def updD (d : Nat → Bool) (i : Nat) : Nat → Bool := fun j => if j = i then true else d j
theorem updG_other (g : Nat → Option Value) {s t : Nat} (v : Value) (h : s ≠ t) : updG g t v s = g s := if_neg h
theorem updD_other (d : Nat → Bool) {i j : Nat} (h : j ≠ i) : updD d i j = d j := if_neg h
theorem fillA_none (a : Act) : fillA a (fun _ => none) = a := by
  unfold fillA
  cases a
  simp only [Option.getD_none, Act.mk.injEq, and_true]
  apply Array.ext
  · simp
  · intro i h1 h2; simp

theorem fillA_put (a : Act) (g : Nat → Option Value) (t : Nat) (v : Value) : (fillA a g).put (some t) v = fillA a (updG g t v) := by
  unfold fillA Act.put
  simp only [Act.mk.injEq, and_true]
  apply Array.ext
  · simp
  · intro i h1 h2
    have hi : i < (Array.mapIdx (fun t v => (g t).getD v) a.tmps).size := by simpa using h1
    rw [Array.getElem_setIfInBounds hi]
    simp only [Array.getElem_mapIdx, updG]
    by_cases h : t = i
    · subst h; simp
    · rw [if_neg h, if_neg (Ne.symm h)]

theorem fillA_some {a : Act} {g : Nat → Option Value} {t : Nat} {v : Value} (h : g t = some v) (ht : t < a.tmps.size) : (fillA a g).eval (.tmp t) = v := by
  unfold fillA Act.eval
  simp only [Array.getD_eq_getD_getElem?, Array.getElem?_mapIdx, Array.getElem?_eq_getElem ht, Option.map_some, Option.getD_some, h]

theorem fillA_keep {a : Act} {g : Nat → Option Value} {t : Nat} (h : g t = none) : (fillA a g).eval (.tmp t) = a.eval (.tmp t) := by
  unfold fillA Act.eval
  simp only [Array.getD_eq_getD_getElem?, Array.getElem?_mapIdx, h]
  cases a.tmps[t]? <;> rfl

section
variable {P : Program} {ops : Array Oper} {Q : Exit → Act → World → Prop} {md : Region.Mode} {a : Act}

/-- Each edge that binds goes to an operation ahead. -/
def topB (md : Region.Mode) (ops : Array Oper) : Bool := (List.range ops.size).all fun i => ((ops[i]?).map fun o => o.after.all fun e => !Region.binds md e || decide (e.on < i)).getD true

theorem all_listed {L : Array Bool} (ht : topB md ops = true) (hr : Region.ready md ops L = []) (hL : L.size = ops.size) : ∀ i, i < ops.size → L.getD i false = true := by
  intro i
  induction i using Nat.strongRecOn with
  | ind i ih =>
    intro hi
    cases hc : L.getD i false with
    | true => rfl
    | false =>
      exfalso
      have hm : i ∈ Region.ready md ops L := by
        rw [mem_ready]
        refine ⟨?_, ops[i], by simp [hi], fun e he hb => ?_⟩
        · have hlt : i < L.size := by omega
          simp only [Array.getD_eq_getD_getElem?, Array.getElem?_eq_getElem hlt, Option.getD_some] at hc ⊢
          exact hc
        · have h1 := List.all_eq_true.1 ht i (List.mem_range.2 hi)
          simp only [Array.getElem?_eq_getElem hi, Option.map_some, Option.getD_some] at h1
          have h2 := Array.all_eq_true_iff_forall_mem.1 h1 e he
          simp only [hb, Bool.not_true, Bool.false_or, decide_eq_true_eq] at h2
          exact ih e.on h2 (by omega)
      rw [hr] at hm
      cases hm

theorem wpAny_ghost (ht : topB md ops = true) (I : (Nat → Bool) → (Nat → Option Value) → World → Prop)
    (step : ∀ d g w, I d g w → ∀ i o, ops[i]? = some o → d i = false → (∀ e ∈ o.after, Region.binds md e = true → d e.on = true) →
      wpOp P ops Q i (fun a' w' => ∃ g', a' = fillA a g' ∧ I (updD d i) g' w') (fillA a g) w)
    (fin : ∀ d g w, I d g w → (∀ i, i < ops.size → d i = true) → Q .normal (fillA a g) w) :
    ∀ (n : Nat) (L : Array Bool) (g : Nat → Option Value) (w : World), L.size = ops.size → L.toList.count false ≤ n → I (fun j => L.getD j false) g w → wpAny P md ops Q n L (fillA a g) w := by
  intro n
  induction n with
  | zero =>
    intro L g w hL hc hI
    have hr : Region.ready md ops L = [] := by
      rw [List.eq_nil_iff_forall_not_mem]
      intro i hi
      obtain ⟨h0, o, ho, _⟩ := mem_ready.1 hi
      have hlt : i < L.size := by rw [hL]; exact (Array.getElem?_eq_some_iff.1 ho).1
      simp only [Array.getD_eq_getD_getElem?, Array.getElem?_eq_getElem hlt, Option.getD_some] at h0
      have : false ∈ L.toList := by rw [← h0]; simp
      have := List.count_pos_iff.2 this
      omega
    exact ⟨hr, fin _ _ _ hI (all_listed ht hr hL)⟩
  | succ n ih =>
    intro L g w hL hc hI
    refine ⟨fun hr => fin _ _ _ hI (all_listed ht hr hL), fun i hi => ?_⟩
    obtain ⟨h0, o, ho, hall⟩ := mem_ready.1 hi
    have hlt : i < L.size := by rw [hL]; exact (Array.getElem?_eq_some_iff.1 ho).1
    have h0' : L.getD i false = false := by
      simp only [Array.getD_eq_getD_getElem?, Array.getElem?_eq_getElem hlt, Option.getD_some] at h0 ⊢
      exact h0
    refine wpOp_mono ?_ (step _ g w hI i o ho h0' hall)
    rintro a' w' ⟨g', rfl, hI'⟩
    refine ih (L.setIfInBounds i true) g' w' (by simpa using hL) ?_ ?_
    · have hget : L.toList[i]'(by simpa using hlt) = false := by
        simp only [Array.getD_eq_getD_getElem?, Array.getElem?_eq_getElem hlt, Option.getD_some] at h0
        simpa using h0
      rw [Array.toList_setIfInBounds, List.count_set (by simpa using hlt), hget]
      have e1 : ((false == false) = true) := rfl
      have e2 : ¬ ((true == false) = true) := by decide
      rw [if_pos e1, if_neg e2]
      omega
    · have e : (fun j => (L.setIfInBounds i true).getD j false) = updD (fun j => L.getD j false) i := by
        funext j
        unfold updD
        by_cases hj : j = i
        · subst hj; simp [hlt]
        · rw [if_neg hj, getD_set_ne false (Ne.symm hj)]
      rw [e]
      exact hI'

/-- A region that draws its order: what is known (I) of what has come up, of the slots and of the world stays through each operation. -/
theorem wp_region_ghost {id : Nat} {w : World} (I : (Nat → Bool) → (Nat → Option Value) → World → Prop) (hm : P.follows .mixedOrders = true) (ht : topB .any ops = true)
    (h0 : I (fun _ => false) (fun _ => none) w.drew)
    (step : ∀ d g w, I d g w → ∀ i o, ops[i]? = some o → d i = false → (∀ e ∈ o.after, Region.binds .any e = true → d e.on = true) →
      wpOp P ops Q i (fun a' w' => ∃ g', a' = fillA a g' ∧ I (updD d i) g' w') (fillA a g) w)
    (fin : ∀ d g w, I d g w → (∀ i, i < ops.size → d i = true) → Q .normal (fillA a g) w) : (Code.region id ops true).wp P Q a w := by
  refine wp_region_any hm ?_
  have h := wpAny_ghost ht I step fin ops.size (Array.replicate ops.size false) (fun _ => none) w.drew (by simp) (by simp) (by
    have e : (fun j => (Array.replicate ops.size false).getD j false) = fun _ => false := by
      funext j
      simp only [Array.getD_eq_getD_getElem?, Array.getElem?_replicate]
      split <;> rfl
    rw [e]; exact h0)
  rw [fillA_none] at h
  exact h

variable {i : Nat} {o : Oper} {d : Nat → Bool} {g : Nat → Option Value} {w w' : World} {I : (Nat → Bool) → (Nat → Option Value) → World → Prop}

theorem ghost_value {t : Nat} {v : Value} (hi : ops[i]? = some o) (hg : o.guard = none) (hd : o.dst = some t) (hr : (execOp (fillA a g).eval o).run P w = .ok (.value v) w')
    (hI : I (updD d i) (updG g t v) w') : wpOp P ops Q i (fun a' w' => ∃ g', a' = fillA a g' ∧ I (updD d i) g' w') (fillA a g) w := by
  unfold wpOp
  simp only [hi]
  rw [if_pos (by unfold Region.wanted; rw [hg])]
  refine .inl ?_
  unfold Oper.wp
  rw [hr]
  show ∃ g', _ ∧ _
  exact ⟨_, by rw [hd]; exact fillA_put a g t v, hI⟩

theorem ghost_skip (hi : ops[i]? = some o) (hg : o.guard = none) (hd : o.dst = none) (hr : (execOp (fillA a g).eval o).run P w = .ok .skip w')
    (hI : I (updD d i) g w') : wpOp P ops Q i (fun a' w' => ∃ g', a' = fillA a g' ∧ I (updD d i) g' w') (fillA a g) w := by
  unfold wpOp
  simp only [hi]
  rw [if_pos (by unfold Region.wanted; rw [hg])]
  refine .inl ?_
  unfold Oper.wp
  rw [hr]
  show ∃ g', _ ∧ _
  exact ⟨g, by rw [hd]; rfl, hI⟩

theorem ghost_call {t : Nat} {f : FuncId} {args : Array Value} (hi : ops[i]? = some o) (hg : o.guard = none) (hd : o.dst = some t) (hr : (execOp (fillA a g).eval o).run P w = .ok (.enter f args) w')
    (hc : Calls P f args w' fun e w'' => ∃ v, e = .returned v ∧ I (updD d i) (updG g t v) w'') : wpOp P ops Q i (fun a' w' => ∃ g', a' = fillA a g' ∧ I (updD d i) g' w') (fillA a g) w := by
  unfold wpOp
  simp only [hi]
  rw [if_pos (by unfold Region.wanted; rw [hg])]
  refine .inl ?_
  unfold Oper.wp
  rw [hr, Oper.upon_enter]
  refine hc.mono ?_
  rintro e w'' ⟨v, rfl, h⟩
  exact ⟨_, by rw [hd]; exact fillA_put a g t v, h⟩
end
end Go.Proofs.Ytnloommafgnanaa
