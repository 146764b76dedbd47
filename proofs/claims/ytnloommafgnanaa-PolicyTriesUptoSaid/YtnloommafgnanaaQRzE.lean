/-
  gazetteersame: Mark, Spare, Twin, Whole.
-/
import Derived.Test.YtnloommafgnanaaQRefU
import Derived.Test.YtnloommafgnanaaQZoneV
import Derived.Test.YtnloommafgnanaaQSerial
namespace Go.Proofs.Ytnloommafgnanaa
open Go.RowKit Go.Shelf Go.Proofs.Ytnloommafgnanaa.nm Go.Proofs.Ytnloommafgnanaa.od

/-- A row into which may be written. -/
def Writ (w : World) (base : Nat) (v : Value) (n : Nat) : Prop := ∃ xs, w.ownsRow base 41 5 v n xs
theorem Writ.set {w : World} {base g n cap : Nat} (h : Writ w base (.slice (some ⟨g, 0, none⟩) n cap) n) (j : Nat) (u : Value) : Writ (w.setCell ⟨g, j, none⟩ u) base (.slice (some ⟨g, 0, none⟩) n cap) n ∧ w.grownBy (w.setCell ⟨g, j, none⟩ u) (some g) := by
  obtain ⟨xs, hx⟩ := h
  obtain ⟨h1, h2⟩ := hx.stored j u
  exact ⟨⟨_, h1⟩, h2⟩
theorem Writ.cells {w : World} {base g n cap : Nat} (h : Writ w base (.slice (some ⟨g, 0, none⟩) n cap) n) {j : Nat} (hj : j < n * 5) : ∃ u, w.cell? ⟨g, j, none⟩ = some u ∧ w.frozen? ⟨g, j, none⟩ = false := by
  obtain ⟨xs, hx⟩ := h
  have h1 := hx.cellAt j hj
  rw [List.getElem?_eq_getElem (by rw [hx.1]; exact hj)] at h1
  exact ⟨_, h1, hx.frozenAt j⟩

theorem recs_one (l : List Rec) : ∀ u ∈ recsC l, u.oneCell' = true := fun u hu => by
  unfold recsC at hu
  obtain ⟨r, _, hr⟩ := List.mem_flatMap.1 hu
  simp only [List.mem_cons, List.not_mem_nil, or_false] at hr
  rcases hr with rfl | rfl | rfl | rfl | rfl <;> rfl


end Go.Proofs.Ytnloommafgnanaa
