/-
  Records that come in as an argument.
-/
import Derived.Test.YtpjoaghnciomeaaGreatOpen
import Derived.Test.YtpjoaghnciomeaaGreatZoneV
import Derived.Lib.SmallJoins
namespace Go.Proofs.YtpjoaghnciomeaaGreat
open Go.RowKit Go.ChangeShapes Go.WideShapes Go.ChangeAt Go.Deep

theorem own : ownKnob Tryz.prog.godebug = none := by kernel_rfl
section
variable {H : Type} {enc : TypeId × Value → H} {W : World} {spare : Nat → Bool} {held : Bool}
/-- A slice of records that came in. -/
theorem open_recs {fuel : Nat} {v : Value} {x : DataW H × List MemPlace} (hf : DataW.trod enc Tryz.prog W 0 spare held fuel 22 [v] = some x) :
    ∃ a cap l, v = .slice a (l : List Rec).length cap ∧ l.length ≤ 9223372036854775807 ∧ RecsAt W (.slice a l.length cap) l ∧ ∀ r ∈ l, (Lit.int .i64 r.typ).wf = true := by
  rcases open_slice_fields Tryz.underlying22 Tryz.underlying53 (by kernel_rfl) (by kernel_rfl) hf with ⟨hcs, _⟩ | ⟨a, len, cap, m, D, Pl, hcs, hb, hl, hm, hmm, hx, hi⟩
  · simp only [List.cons.injEq, and_true] at hcs
    exact ⟨none, 0, [], hcs, by simp, ⟨none, 0, rfl, Nat.le_refl _, fun k hk => absurd hk (Nat.not_lt_zero _)⟩, fun r hr => by simp at hr⟩
  · simp only [List.cons.injEq, and_true] at hcs
    have hnm : len ≤ m := by rw [hmm]; split <;> omega
    obtain ⟨cs, h1, h2⟩ := list_of (P := fun i (r : Rec) => W.cell? (a.add (i * 5)) = some (.string r.owner) ∧ W.cell? (a.add (i * 5 + 1)) = some (.int .i64 r.typ) ∧ W.cell? (a.add (i * 5 + 2)) = some (.int .i64 r.cls) ∧
        W.cell? (a.add (i * 5 + 3)) = some (.int .i64 r.ttl) ∧ W.cell? (a.add (i * 5 + 4)) = some (.string r.data) ∧ (Lit.int .i64 r.typ).wf = true) len (fun i hin => by
      obtain ⟨ys, k, _, _, _, hf⟩ := hi i (by omega)
      obtain ⟨v0, y0, c0, _, t0⟩ := hf 0 _ rfl
      obtain ⟨v1, y1, c1, _, t1⟩ := hf 1 _ rfl
      obtain ⟨v2, y2, c2, _, t2⟩ := hf 2 _ rfl
      obtain ⟨v3, y3, c3, _, t3⟩ := hf 3 _ rfl
      obtain ⟨v4, y4, c4, _, t4⟩ := hf 4 _ rfl
      obtain ⟨s, e0, _⟩ := DataW.trod_string Tryz.underlying9 t0
      obtain ⟨q1, e1, _, wq1⟩ := DataW.trod_int Tryz.underlying3 t1
      obtain ⟨q2, e2, _, _⟩ := DataW.trod_int Tryz.underlying3 t2
      obtain ⟨q3, e3, _, _⟩ := DataW.trod_int Tryz.underlying3 t3
      obtain ⟨s4, e4, _⟩ := DataW.trod_string Tryz.underlying9 t4
      simp only [List.cons.injEq, and_true] at e0 e1 e2 e3 e4
      subst e0 e1 e2 e3 e4
      exact ⟨⟨s, q1, q2, q3, s4⟩, c0, c1, c2, c3, c4, wq1⟩)
    refine ⟨some a, cap, cs, by rw [hcs, h1], ?_, ⟨some a, cap, rfl, by omega, fun k hk => ?_⟩, fun r hr => ?_⟩
    · unfold maxLen at hm
      omega
    · obtain ⟨c0, c1, c2, c3, c4, _⟩ := h2 k _ (List.getElem?_eq_getElem hk)
      obtain ⟨b, off, spot⟩ := a
      have hspot : spot = none := by
        have hk0 : 0 < cs.length := by omega
        have := World.cell?_spot (h2 0 _ (List.getElem?_eq_getElem hk0)).1
        simpa [Addr.add] using this
      subst hspot
      rw [Addr.add_lit] at c0 c1 c2 c3 c4
      exact ⟨b, off, rfl, World.block_lt_of_cell? _ _ c0, c0, by rw [Nat.add_assoc]; exact c1, by rw [Nat.add_assoc]; exact c2, by rw [Nat.add_assoc]; exact c3, by rw [Nat.add_assoc]; exact c4⟩
    · obtain ⟨k, hk, rfl⟩ := List.getElem_of_mem hr
      exact (h2 k _ (List.getElem?_eq_getElem hk)).2.2.2.2.2
end
/-- Where a slice that came in lies. -/
theorem okWide_form {P : Program} {w : World} {r : Reach} {base : Nat} {t e : TypeId} {a : Option Addr} {n c : Nat} (ht : P.underlying t = some (.slice e)) (h : Value.okWide P w r base t (.slice a n c)) : SliceForm (.slice a n c) := by
  simp only [Value.okWide, ht, Cell.okWide, Cell.ok] at h
  cases a with
  | none =>
    left
    split at h
    all_goals first | (cases h; done) | simp_all
  | some a =>
    obtain ⟨b, off, spot⟩ := a
    simp only at h
    obtain ⟨_, _, hh⟩ := h
    have hs : spot = none := hh.2.1
    subst hs
    exact .inr ⟨b, off, n, c, rfl⟩
end Go.Proofs.YtpjoaghnciomeaaGreat
