import Derived.Test.YtdjjemajfphjaaaGreatQMapF
import Derived.Test.YtdjjemajfphjaaaGreatQZoneC
namespace Go.Proofs.YtdjjemajfphjaaaGreat
open Go.RowKit Go.Shelf Go.WideMaps Go.WideElems Go.MapKept Go.Proofs.YtdjjemajfphjaaaGreat.nm Go.Proofs.YtdjjemajfphjaaaGreat.od
def BM (w : World) (b : Nat) (f : Bool → Option Int) : Prop :=
  ∃ es clock, w.heap[b]? = some (.map es clock) ∧ (∀ e ∈ es.toList, ∃ k v, e.key = .bool k ∧ e.val = .int .i64 v ∧ f k = some v) ∧ ∀ k v, f k = some v → ∃ e ∈ es.toList, e.key = .bool k
theorem BM.lt {w : World} {b : Nat} {f : Bool → Option Int} (h : BM w b f) : b < w.heap.size := by obtain ⟨_, _, h, _⟩ := h; exact heap_lt h
theorem BM.keep {w w' : World} {b : Nat} {f : Bool → Option Int} (h : BM w b f) (hk : ∀ o, w.heap[b]? = some o → w'.heap[b]? = some o) : BM w' b f := by
  obtain ⟨es, c, h1, h2⟩ := h
  exact ⟨es, c, hk _ h1, h2⟩
theorem BM.below {w w' : World} {b : Nat} {f : Bool → Option Int} (h : BM w b f) (hb : Below w.heap.size w w') : BM w' b f := h.keep fun _ ho => (hb.block b h.lt).trans ho
theorem BM.made (w : World) : BM (w.alloc (.map #[] 0)) w.heap.size (fun _ => none) := ⟨#[], 0, heap_new_at rfl, by simp, by simp⟩
theorem bm_put {w : World} {b : Nat} {f : Bool → Option Int} (h : BM w b f) (k : Bool) (hn : f k = none) (p : Int) :
    ∃ w1, (Instr.mapUpdate 116 (.map (some b)) (.bool k) (.int .i64 p)).run Tryz.prog w = .ok () w1 ∧ w.grownBy w1 (some b) ∧ BM w1 b (fun j => if j = k then some p else f j) := by
  obtain ⟨es, clock, h1, h2, h3⟩ := h
  have hkey : ∀ x ∈ es.toList, IsKey .bool x.key := fun x hx => by obtain ⟨j, v, e, _⟩ := h2 x hx; rw [e]; trivial
  have hf : (Instr.findKey 4 (.bool k) es.toList).run Tryz.prog w = .ok none w := by
    rcases findNow_spec (d := .bool) (k := .bool k) trivial es.toList 0 hkey with ⟨g1, _⟩ | ⟨j, e, _, g2, g3⟩
    · exact run_findKey Tryz.underlying4 g1
    · exfalso
      obtain ⟨k', v, e1, _, e3⟩ := h2 e (List.mem_of_getElem? g2)
      rw [e1] at g3
      simp at g3
      rw [g3, hn] at e3
      cases e3
  refine ⟨putMap w b (es.push ⟨.bool k, .int .i64 p, clock⟩) (clock + 1), ?_, putMap_grown, _, _, putMap_at (heap_lt h1), fun e he => ?_, fun j v hj => ?_⟩
  · simp [Instr.mapUpdate, run_underlying Tryz.underlying116, Go.MapKept.run_getObj_map h1, run_checkKey (k := .bool k) Tryz.underlying4 (show IsKey .bool (.bool k) from trivial), hf, Go.MapKept.run_setObj_map _ h1, putMap]
  · rw [Array.toList_push] at he
    rcases List.mem_append.1 he with he | he
    · obtain ⟨j, v, e1, e2, e3⟩ := h2 e he
      refine ⟨j, v, e1, e2, ?_⟩
      have : j ≠ k := fun e => by rw [e, hn] at e3; cases e3
      show (if j = k then some p else f j) = _
      rw [if_neg this]; exact e3
    · rw [List.mem_singleton] at he
      subst he
      exact ⟨k, p, rfl, rfl, if_pos rfl⟩
  · rw [Array.toList_push]
    by_cases hjk : j = k
    · subst hjk
      exact ⟨_, List.mem_append_right _ (List.mem_singleton.2 rfl), rfl⟩
    · simp only [if_neg hjk] at hj
      obtain ⟨e, he, h⟩ := h3 j v hj
      exact ⟨e, List.mem_append_left _ he, h⟩
theorem bm_look {w : World} {b : Nat} {f : Bool → Option Int} (h : BM w b f) {k : Bool} {p : Int} (hp : f k = some p) :
    (Instr.lookup 116 (.map (some b)) (.bool k) false).run Tryz.prog w = .ok (.int .i64 p) w := by
  obtain ⟨es, clock, h1, h2, h3⟩ := h
  have hkey : ∀ x ∈ es.toList, IsKey .bool x.key := fun x hx => by obtain ⟨j, v, e, _⟩ := h2 x hx; rw [e]; trivial
  rcases findNow_spec (d := .bool) (k := .bool k) trivial es.toList 0 hkey with ⟨_, g1⟩ | ⟨j, e, g1, g2, g3⟩
  · obtain ⟨e, he, hk⟩ := h3 k p hp
    exact absurd hk (g1 e he)
  · have hf := run_findKey (P := Tryz.prog) (w := w) Tryz.underlying4 g1
    obtain ⟨k', v, e1, e2, e3⟩ := h2 e (List.mem_of_getElem? g2)
    rw [e1] at g3
    simp at g3
    rw [g3, hp] at e3
    simp at e3
    rw [e2, ← e3] at hf
    simp [Instr.lookup, run_underlying Tryz.underlying116, Go.MapKept.run_getObj_map h1, run_checkKey (k := .bool k) Tryz.underlying4 (show IsKey .bool (.bool k) from trivial), hf]
end Go.Proofs.YtdjjemajfphjaaaGreat
