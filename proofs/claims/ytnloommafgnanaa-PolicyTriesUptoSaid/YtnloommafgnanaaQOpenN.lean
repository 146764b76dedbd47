/-
  Numbers that come in as an argument.
-/
import Derived.Test.YtnloommafgnanaaQOpenU
import Derived.Test.YtnloommafgnanaaQOrdE
namespace Go.Proofs.Ytnloommafgnanaa
open Go.RowKit Go.ChangeShapes Go.WideShapes Go.ChangeAt Go.Deep

section
variable {H : Type} {enc : TypeId × Value → H} {W : World} {spare : Nat → Bool} {held : Bool}
/-- A slice of numbers that came in. -/
theorem open_nums {fuel : Nat} {v : Value} {x : DataW H × List MemPlace} (hf : DataW.trod enc Try.prog W 0 spare held fuel 36 [v] = some x) :
    ∃ A c zs, v = .slice A (zs : List Int).length c ∧ zs.length ≤ Rows.uptoBulk x.1 ∧ IntsC W (.slice A zs.length c) zs ∧ ∀ z ∈ zs, I64 z := by
  rcases open_ints Try.underlying36 Try.underlying3 (by kernel_rfl) hf with ⟨hcs, _⟩ | ⟨a, l, cp, zs, hcs, _, hl, hm, hz, hx, hcell, hwf⟩
  · simp only [List.cons.injEq, and_true] at hcs
    exact ⟨none, 0, [], hcs, Nat.zero_le _, ⟨none, 0, rfl, Nat.le_refl _, fun k h => absurd h (Nat.not_lt_zero _)⟩, fun s hs => by simp at hs⟩
  · simp only [List.cons.injEq, and_true] at hcs
    have hz' : l ≤ zs.length := by rw [hz]; split <;> omega
    have hlt : (zs.take l).length = l := by simp; omega
    refine ⟨some a, cp, zs.take l, by rw [hcs, hlt], ?_, ⟨some a, cp, rfl, by omega, fun k hk => ?_⟩, fun z hzm => ?_⟩
    · rw [hx]
      have := bulks.slice_len (H := H) (lits .i64 (zs.take l)) (lits .i64 (zs.drop l))
      have h2 : (lits (H := H) .i64 (zs.take l)).length = (zs.take l).length := by simp [lits]
      rw [h2] at this
      exact this
    · have hkl : k < l := by omega
      have c0 := hcell 0 (by omega)
      have ck := hcell k (by omega)
      obtain ⟨b, off, spot⟩ := a
      have hspot : spot = none := by
        have := World.cell?_spot c0
        simpa [Addr.add] using this
      subst hspot
      rw [Addr.add_lit] at ck
      have hg : zs.getD k 0 = (zs.take l)[k] := by rw [List.getD_eq_getElem?_getD, List.getElem?_eq_getElem (by omega), List.getElem_take]; rfl
      rw [hg] at ck
      exact ⟨b, off, rfl, World.block_lt_of_cell? _ _ ck, ck⟩
    · have h1 := hwf z (List.mem_of_mem_take hzm)
      unfold I64
      simp [Lit.wf, IntKind.min, IntKind.max, IntKind.signed, IntKind.bits] at h1
      omega
end
end Go.Proofs.Ytnloommafgnanaa
