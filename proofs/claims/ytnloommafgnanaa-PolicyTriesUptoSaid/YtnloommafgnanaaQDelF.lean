/-
  slices.IndexFunc and slices.DeleteFunc of records.
-/
import Derived.Test.YtnloommafgnanaaQMsgP
import Derived.Test.YtnloommafgnanaaQRefU
import Derived.Lib.SliceRun
namespace Go.Proofs.Ytnloommafgnanaa
open Go.RowKit Go.Shelf Go.Proofs.Ytnloommafgnanaa.nm Go.Proofs.Ytnloommafgnanaa.od

namespace df
def keep (p : Rec → Bool) (l : List Rec) : List Rec := l.filter fun x => !p x
end df

abbrev zeroR : Rec := ⟨⟨#[]⟩, 0, 0, 0, ⟨#[]⟩⟩
theorem zeros_recs (n : Nat) : (Builtin.zeroCells (recC zeroR).toArray n).toList = recsC (List.replicate n zeroR) := by
  apply List.ext_getElem?
  intro i
  by_cases hi : i < n * 5
  · have h2 := recsC_at (List.replicate n zeroR) i (by rw [List.length_replicate]; exact hi)
    rw [h2, List.getElem_replicate]
    have hs : (recC zeroR).toArray.size = 5 := rfl
    rw [List.getElem?_eq_getElem (by simp [Builtin.zeroCells]; omega)]
    have h5 : i % 5 < 5 := Nat.mod_lt _ (by omega)
    simp only [Builtin.zeroCells, hs, Array.toList_map, List.getElem_map, Array.getElem_toList, Array.getElem_range]
    exact (by
      have key : ∀ k, k < 5 → some ((recC zeroR).toArray[k]!) = (recC zeroR)[k]? := fun k hk => by
        match k, hk with
        | 0, _ => rfl
        | 1, _ => rfl
        | 2, _ => rfl
        | 3, _ => rfl
        | 4, _ => rfl
      exact key _ h5)
  · rw [List.getElem?_eq_none (by simp [Builtin.zeroCells]; omega), List.getElem?_eq_none (by rw [recsC_len, List.length_replicate]; omega)]
/-- clear of records. -/
theorem run_clear_recs (w : World) (ty : TypeId) (b o n c : Nat) (hn : 0 < n) (hc : ∀ j, j < n * 5 → (w.cell? ⟨b, o + j, none⟩).isSome = true) (hf : ∀ j, j < n * 5 → w.frozen? ⟨b, o + j, none⟩ = false) :
    (Builtin.clear_ #[25] ty #[.slice (some ⟨b, o, none⟩) n c]).run Try.prog w = .ok (.tuple #[]) (w.setCells b o (recsC (List.replicate n zeroR))) := by
  have hl : (recsC (List.replicate n zeroR)).length = n * 5 := by rw [recsC_len, List.length_replicate]
  have hst := run_storeCells_cells (P := Try.prog) b o (recsC (List.replicate n zeroR)) 0 w (by rw [hl]; simpa using hc) (by rw [hl]; simpa using hf) (recs_one _)
  simp only [Nat.add_zero] at hst
  have hz : ∀ w, (zeroValue 41).run Try.prog w = .ok (recV zeroR) w := fun w => by kernel_rfl
  have hzc : (Builtin.zeroCells (recV zeroR).cells n).toList = recsC (List.replicate n zeroR) := zeros_recs n
  obtain ⟨m, rfl⟩ : ∃ m, n = m + 1 := ⟨n - 1, by omega⟩
  simp [Builtin.clear_, run_underlying Try.underlying25, hz, hzc, hst]

theorem recsC_take (l : List Rec) : ∀ (m : Nat), (recsC l).take (m * 5) = recsC (l.take m) := by
  induction l with
  | nil => intro m; simp [recsC]
  | cons a t ih =>
    intro m
    cases m with
    | zero => rfl
    | succ m =>
      have e : recsC (a :: t) = .string a.owner :: .int .i64 a.typ :: .int .i64 a.cls :: .int .i64 a.ttl :: .string a.data :: recsC t := rfl
      rw [e, show (m + 1) * 5 = m * 5 + 1 + 1 + 1 + 1 + 1 by omega]
      simp only [List.take_succ_cons]
      rw [ih m]
      rfl
/-- A tail of a row is cleared. -/
theorem own_clear {w : World} {base g n cap i : Nat} {M : List Rec} (h : w.ownsRow base 41 5 (.slice (some ⟨g, 0, none⟩) n cap) n (recsC M)) (hi : i < n) :
    (∀ ty, (Builtin.clear_ #[25] ty #[.slice (some ⟨g, i * 5, none⟩) (n - i) (cap - i)]).run Try.prog w = .ok (.tuple #[]) (w.setCells g (i * 5) (recsC (List.replicate (n - i) zeroR)))) ∧
    (w.setCells g (i * 5) (recsC (List.replicate (n - i) zeroR))).ownsRow base 41 5 (.slice (some ⟨g, 0, none⟩) i cap) i (recsC (M.take i)) ∧
    w.grownBy (w.setCells g (i * 5) (recsC (List.replicate (n - i) zeroR))) (some g) := by
  have hrl : (recsC (List.replicate (n - i) zeroR)).length = (n - i) * 5 := by rw [recsC_len, List.length_replicate]
  have hml : (recsC M).length = n * 5 := h.1
  rcases h.2 with ⟨h0, _⟩ | ⟨g', cap', cur, hv, hb, hg, hn, hc, hz, hx⟩
  · cases h0
  · simp only [Value.slice.injEq, Option.some.injEq, Addr.mk.injEq, and_true, true_and] at hv
    obtain ⟨rfl, rfl⟩ := hv
    obtain ⟨cur', h1, h2, h3, h4⟩ := setCells_heap g 41 (recsC (List.replicate (n - i) zeroR)) (i * 5) cur w hg (by rw [hrl, hz]; have : n * 5 ≤ cap * 5 := Nat.mul_le_mul_right _ hn; omega)
    have hM : M.length = n := by rw [recsC_len] at hml; omega
    refine ⟨fun ty => run_clear_recs w ty g (i * 5) (n - i) (cap - i) (by omega) (fun j hj => ?_) (fun j hj => h.frozenAt _), ⟨by rw [recsC_len, List.length_take]; omega, .inr ⟨g, cap, cur', rfl, hb, h1, by omega, hc, by rw [h2, hz], ?_⟩⟩, h4⟩
    · rw [h.cellAt _ (by omega), List.getElem?_eq_getElem (by omega)]
      rfl
    · have hcl : i * 5 ≤ cur.toList.length := by rw [Array.length_toList, hz]; have : n * 5 ≤ cap * 5 := Nat.mul_le_mul_right _ hn; omega
      rw [h3, List.append_assoc, List.take_append_of_le_length (by rw [List.length_take]; omega), List.take_take, Nat.min_self, ← recsC_take, ← hx, List.take_take, Nat.min_eq_left (by omega)]

end Go.Proofs.Ytnloommafgnanaa
