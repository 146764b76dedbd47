/-
  Rules that come in as an argument.
-/
import Derived.Test.YtnloommafgnanaaQOpenM
import Derived.Test.YtnloommafgnanaaQPolA
import Derived.Test.YtnloommafgnanaaQRowP
import Derived.SliceStrings
namespace Go.Proofs.Ytnloommafgnanaa
open Go.RowKit Go.ChangeShapes Go.WideShapes Go.ChangeAt Go.Deep

section
variable {H : Type} {enc : TypeId × Value → H} {W : World} {spare : Nat → Bool} {held : Bool}
/-- A slice of rules that came in. -/
theorem open_rules {fuel : Nat} {v : Value} {x : DataW H × List MemPlace} (hf : DataW.trod enc Try.prog W 0 spare held fuel 22 [v] = some x) :
    ∃ a cap l, v = .slice a (l : List Rul).length cap ∧ l.length ≤ Rows.uptoBulk x.1 ∧ RulsAt W (.slice a l.length cap) l ∧ ∀ r ∈ l, r.name.size ≤ Rows.uptoBulk x.1 := by
  rcases open_slice_fields Try.underlying22 Try.underlying51 (by kernel_rfl) (by kernel_rfl) hf with ⟨hcs, _⟩ | ⟨a, len, cap, m, D, Pl, hcs, hb, hl, hm, hmm, hx, hi⟩
  · simp only [List.cons.injEq, and_true] at hcs
    exact ⟨none, 0, [], hcs, Nat.zero_le _, ⟨none, 0, rfl, Nat.le_refl _, fun k hk => absurd hk (Nat.not_lt_zero _)⟩, fun r hr => by simp at hr⟩
  · simp only [List.cons.injEq, and_true] at hcs
    have hnm : len ≤ m := by rw [hmm]; split <;> omega
    obtain ⟨cs, h1, h2⟩ := list_of (P := fun i (r : Rul) => W.cell? (a.add (i * 6)) = some (.string r.name) ∧ W.cell? (a.add (i * 6 + 1)) = some (.bool r.below) ∧ W.cell? (a.add (i * 6 + 2)) = some (.int .i64 r.kind) ∧
        W.cell? (a.add (i * 6 + 3)) = some (.int .i64 r.typ) ∧ W.cell? (a.add (i * 6 + 4)) = some (.int .i64 r.ttl) ∧ W.cell? (a.add (i * 6 + 5)) = some (.string r.data) ∧ r.name.size ≤ Rows.uptoBulk (D i)) len (fun i hin => by
      obtain ⟨ys, k, hD, _, _, hf⟩ := hi i (by omega)
      obtain ⟨v0, y0, c0, hy0, t0⟩ := hf 0 _ rfl
      obtain ⟨v1, y1, c1, _, t1⟩ := hf 1 _ rfl
      obtain ⟨v2, y2, c2, _, t2⟩ := hf 2 _ rfl
      obtain ⟨v3, y3, c3, _, t3⟩ := hf 3 _ rfl
      obtain ⟨v4, y4, c4, _, t4⟩ := hf 4 _ rfl
      obtain ⟨v5, y5, c5, _, t5⟩ := hf 5 _ rfl
      obtain ⟨s, e0, hs, _⟩ := DataW.trod_string Try.underlying9 t0
      obtain ⟨q1, e1, _⟩ := DataW.trod_bool Try.underlying4 t1
      obtain ⟨q2, e2, _⟩ := DataW.trod_int Try.underlying3 t2
      obtain ⟨q3, e3, _⟩ := DataW.trod_int Try.underlying3 t3
      obtain ⟨q4, e4, _⟩ := DataW.trod_int Try.underlying3 t4
      obtain ⟨s5, e5, _⟩ := DataW.trod_string Try.underlying9 t5
      simp only [List.cons.injEq, and_true] at e0 e1 e2 e3 e4 e5
      subst e0 e1 e2 e3 e4 e5
      have h1 := bulks.string_le (H := H) s
      have h2 : DataW.lit (H := H) (.string s.data.toList) ∈ ys.map (·.1) := List.mem_map.2 ⟨y0, List.mem_of_getElem? hy0, by rw [hs]⟩
      have h3 := bulks.agg_le h2
      rw [← hD] at h3
      exact ⟨⟨s, q1, q2, q3, q4, s5⟩, c0, c1, c2, c3, c4, c5, Nat.le_trans h1 h3⟩)
    refine ⟨some a, cap, cs, by rw [hcs, h1], ?_, ⟨some a, cap, rfl, by omega, fun k hk => ?_⟩, fun r hr => ?_⟩
    · rw [hx]
      have := bulks.slice_len ((List.range len).map D) ((List.range (m - len)).map fun j => D (len + j))
      rw [List.length_map, List.length_range] at this
      show cs.length ≤ Rows.uptoBulk (DataW.slice ((List.range len).map D) ((List.range (m - len)).map fun j => D (len + j)))
      omega
    · obtain ⟨c0, c1, c2, c3, c4, c5, _⟩ := h2 k _ (List.getElem?_eq_getElem hk)
      obtain ⟨b, off, spot⟩ := a
      have hspot : spot = none := by
        have hk0 : 0 < cs.length := by omega
        have := World.cell?_spot (h2 0 _ (List.getElem?_eq_getElem hk0)).1
        simpa [Addr.add] using this
      subst hspot
      rw [Addr.add_lit] at c0 c1 c2 c3 c4 c5
      exact ⟨b, off, rfl, World.block_lt_of_cell? _ _ c0, c0, by rw [Nat.add_assoc]; exact c1, by rw [Nat.add_assoc]; exact c2, by rw [Nat.add_assoc]; exact c3, by rw [Nat.add_assoc]; exact c4, by rw [Nat.add_assoc]; exact c5⟩
    · obtain ⟨k, hk, rfl⟩ := List.getElem_of_mem hr
      obtain ⟨_, _, _, _, _, _, hz⟩ := h2 k _ (List.getElem?_eq_getElem hk)
      have h4 : D k ∈ (List.range len).map D := List.mem_map.2 ⟨k, List.mem_range.2 (by omega), rfl⟩
      have h5 := bulks.slice_part (sp := (List.range (m - len)).map fun j => D (len + j)) h4
      rw [hx]
      show cs[k].name.size ≤ Rows.uptoBulk (DataW.slice ((List.range len).map D) ((List.range (m - len)).map fun j => D (len + j)))
      omega
/-- A slice of texts that came in. -/
theorem open_strsR {fuel : Nat} {v : Value} {x : DataW H × List MemPlace} (hf : DataW.trod enc Try.prog W 0 spare held fuel 23 [v] = some x) :
    ∃ A c ss, v = .slice A (ss : List ByteArray).length c ∧ ss.length ≤ Rows.uptoBulk x.1 ∧ StrsR W (.slice A ss.length c) ss ∧ ∀ s ∈ ss, s.size ≤ Rows.uptoBulk x.1 := by
  rcases open_strings Try.underlying23 Try.underlying9 (by kernel_rfl) hf with ⟨hcs, _⟩ | ⟨a, l, cp, ss, hcs, _, hl, hm, hz, hx, hcell, _⟩
  · simp only [List.cons.injEq, and_true] at hcs
    exact ⟨none, 0, [], hcs, Nat.zero_le _, ⟨none, 0, rfl, fun k h => by simp at h⟩, fun s hs => by simp at hs⟩
  · simp only [List.cons.injEq, and_true] at hcs
    unfold maxLen at hm
    have hz' : l ≤ ss.length := by rw [hz]; split <;> omega
    have hlt : (ss.take l).length = l := by simp; omega
    have hstrs : ∀ (k : List ByteArray), (strs (H := H) k) = k.map fun s => DataW.lit (.string s.data.toList) := by
      intro k
      first | rfl | (induction k with | nil => rfl | cons a t ih => simp [strs, ih])
    refine ⟨some a, cp, ss.take l, by rw [hcs, hlt], ?_, ⟨some a, cp, rfl, fun k hk => ?_⟩, fun s hs => ?_⟩
    · rw [hx]
      have := bulks.slice_len (H := H) (strs (ss.take l)) (strs (ss.drop l))
      rw [hstrs, List.length_map] at this
      rw [← hstrs] at this
      exact this
    · have hkl : k < l := by omega
      have c0 := hcell 0 (by omega)
      have ck := hcell k (by omega)
      obtain ⟨b, off, spot⟩ := a
      have hspot : spot = none := by
        have := World.cell?_spot c0
        simpa [Addr.add] using this
      subst hspot
      rw [Addr.add_lit] at ck
      have hg : ss.getD k ByteArray.empty = (ss.take l)[k] := by rw [List.getD_eq_getElem?_getD, List.getElem?_eq_getElem (by omega), List.getElem_take]; rfl
      rw [hg] at ck
      exact ⟨b, off, rfl, World.block_lt_of_cell? _ _ ck, ck⟩
    · rw [hx]
      have h2 : DataW.lit (H := H) (.string s.data.toList) ∈ strs (H := H) (ss.take l) := by rw [hstrs]; exact List.mem_map.2 ⟨s, hs, rfl⟩
      have h3 := bulks.slice_part (sp := strs (H := H) (ss.drop l)) h2
      exact Nat.le_trans (bulks.string_le s) h3
end
end Go.Proofs.Ytnloommafgnanaa
