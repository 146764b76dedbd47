/-
  Numbers that come in as an argument; how long a slice of records can be.
-/
import Derived.Test.YtpjoaghnciomeaaGreatOpenR
import Derived.Test.YtpjoaghnciomeaaGreatTurned
import Derived.SizedLaws
namespace Go.Proofs.YtpjoaghnciomeaaGreat
open Go.RowKit Go.ChangeShapes Go.WideShapes Go.ChangeAt Go.Deep

section
variable {H : Type} {enc : TypeId × Value → H} {W : World} {spare : Nat → Bool} {held : Bool}
/-- A slice of numbers that came in. -/
theorem open_nums {fuel : Nat} {v : Value} {x : DataW H × List MemPlace} (hf : DataW.trod enc Tryz.prog W 0 spare held fuel 65 [v] = some x) :
    ∃ a cap l, v = .slice a (l : List Int).length cap ∧ l.length ≤ 9223372036854775807 ∧ IntsR W (.slice a l.length cap) l ∧ ∀ z ∈ l, (Lit.int .i64 z).wf = true := by
  rcases open_ints Tryz.underlying65 Tryz.underlying3 (by kernel_rfl) hf with ⟨hcs, _⟩ | ⟨a, l, cp, zs, hcs, _, hl, hm, hz, _, hcell, hwz⟩
  · simp only [List.cons.injEq, and_true] at hcs
    exact ⟨none, 0, [], hcs, by simp, ⟨none, 0, rfl, fun k hk => absurd hk (Nat.not_lt_zero _)⟩, fun r hr => by simp at hr⟩
  · simp only [List.cons.injEq, and_true] at hcs
    have hz' : l ≤ zs.length := by rw [hz]; split <;> omega
    have hlt : (zs.take l).length = l := by simp; omega
    unfold maxLen at hm
    refine ⟨some a, cp, zs.take l, by rw [hcs, hlt], by omega, ⟨some a, cp, rfl, fun k hk => ?_⟩, fun z hz => hwz z (List.mem_of_mem_take hz)⟩
    have hkl : k < l := by omega
    have c0 := hcell 0 (by omega)
    have ck := hcell k (by omega)
    obtain ⟨b, off, spot⟩ := a
    have hspot : spot = none := by
      have := World.cell?_spot c0
      simpa [Addr.add] using this
    subst hspot
    rw [Addr.add_lit] at ck
    have hg : zs.getD k 0 = (zs.take l)[k] := by rw [List.getD_eq_getElem?_getD, List.getElem?_eq_getElem (by omega), List.getElem_take]; rfl
    rw [hg] at ck
    exact ⟨b, off, rfl, World.block_lt_of_cell? _ _ ck, ck⟩
/-- How a slice of records is told. -/
theorem recs_told {fuel : Nat} {a : Option Addr} {n c : Nat} {x : DataW H × List MemPlace} (hf : DataW.trod enc Tryz.prog W 0 spare held fuel 22 [.slice a n c] = some x) : n = 0 ∨ ∃ es sp, x.1 = .slice es sp ∧ es.length = n := by
  rcases open_slice_fields Tryz.underlying22 Tryz.underlying53 (by kernel_rfl) (by kernel_rfl) hf with ⟨hcs, _⟩ | ⟨a', len, cap, m, D, Pl, hcs, hb, hl, hm, hmm, hx, hi⟩
  · simp only [List.cons.injEq, and_true, Value.slice.injEq] at hcs
    exact .inl hcs.2.1
  · simp only [List.cons.injEq, and_true, Value.slice.injEq] at hcs
    exact .inr ⟨_, _, by rw [hx], by simp [hcs.2.1]⟩
end
end Go.Proofs.YtpjoaghnciomeaaGreat
