/-
  Questions in memory.
-/
import Derived.Test.YtnloommafgnanaaRows
import Derived.Test.YtnloommafgnanaaQZoneC
import Derived.Test.YtnloommafgnanaaQOpenR
import Derived.JoinedCond
namespace Go.Proofs.Ytnloommafgnanaa
open Go.RowKit Go.Shelf Go.WideMaps Go.Proofs.Ytnloommafgnanaa.nm Go.Proofs.Ytnloommafgnanaa.od

/-- A question. -/
structure Qn where
  name : ByteArray
  typ : Int
  cls : Int
def QnAt (w : World) (b off : Nat) (q : Qn) : Prop := w.cell? ⟨b, off, none⟩ = some (.string q.name) ∧ w.cell? ⟨b, off + 1, none⟩ = some (.int .i64 q.typ) ∧ w.cell? ⟨b, off + 2, none⟩ = some (.int .i64 q.cls)
def QnsAt (w : World) (v : Value) (l : List Qn) : Prop :=
  ∃ a cap, v = .slice a l.length cap ∧ l.length ≤ cap ∧ ∀ k (hk : k < l.length), ∃ b off, a = some ⟨b, off, none⟩ ∧ b < w.heap.size ∧ QnAt w b (off + k * 3) l[k]
theorem QnAt.keep {w w' : World} {b off : Nat} {q : Qn} (h : QnAt w b off q) (hk : w'.heap[b]? = w.heap[b]?) : QnAt w' b off q := by
  have e : ∀ i, w'.cell? ⟨b, i, none⟩ = w.cell? ⟨b, i, none⟩ := fun i => World.cell?_of_block (w := w) (a := ⟨b, i, none⟩) hk
  exact ⟨(e _).trans h.1, (e _).trans h.2.1, (e _).trans h.2.2⟩
theorem QnsAt.below {w w' : World} {v : Value} {l : List Qn} (h : QnsAt w v l) (hb : Below w.heap.size w w') : QnsAt w' v l := by
  obtain ⟨a, cap, hv, hc, hr⟩ := h
  refine ⟨a, cap, hv, hc, fun k hk => ?_⟩
  obtain ⟨b, off, ha, hbl, hra⟩ := hr k hk
  exact ⟨b, off, ha, Nat.lt_of_lt_of_le hbl hb.size, hra.keep (hb.block b hbl)⟩
end Go.Proofs.Ytnloommafgnanaa

/-
  What the bound on the arguments gives; questions that come in as an argument.
-/
namespace Go.Proofs.Ytnloommafgnanaa
open Go.RowKit Go.ChangeShapes Go.WideShapes Go.ChangeAt Go.Deep

namespace bulks
theorem one_le {H : Type} (d : DataW H) : 1 ≤ Rows.uptoBulk d := by
  cases d with
  | lit l => cases l <;> simp [Rows.uptoBulk]
  | nil => simp [Rows.uptoBulk]
  | ptr d => simp [Rows.uptoBulk]
  | slice elems spare => simp [Rows.uptoBulk]
  | agg parts => simp [Rows.uptoBulk]
  | iface t d => simp [Rows.uptoBulk]
  | map entries => simp [Rows.uptoBulk]
  | held h => simp [Rows.uptoBulk]
theorem part_le {H : Type} {d : DataW H} {l : List (DataW H)} (h : d ∈ l) : Rows.uptoBulk d ≤ Rows.uptoBulkAll l := by
  induction l with
  | nil => cases h
  | cons x r ih =>
    simp only [Rows.uptoBulkAll]
    cases List.mem_cons.1 h with
    | inl e => subst e; omega
    | inr e => have := ih e; omega
theorem length_le {H : Type} (l : List (DataW H)) : l.length ≤ Rows.uptoBulkAll l := by
  induction l with
  | nil => simp [Rows.uptoBulkAll]
  | cons x r ih => have := one_le x; simp only [Rows.uptoBulkAll, List.length_cons]; omega
theorem agg_le {H : Type} {d : DataW H} {l : List (DataW H)} (h : d ∈ l) : Rows.uptoBulk d ≤ Rows.uptoBulk (.agg l) := by
  have := part_le h
  simp only [Rows.uptoBulk]
  omega
theorem slice_part {H : Type} {d : DataW H} {l sp : List (DataW H)} (h : d ∈ l) : Rows.uptoBulk d ≤ Rows.uptoBulk (.slice l sp) := by
  have := part_le h
  simp only [Rows.uptoBulk]
  omega
theorem slice_len {H : Type} (l sp : List (DataW H)) : l.length ≤ Rows.uptoBulk (.slice l sp) := by
  have := length_le l
  simp only [Rows.uptoBulk]
  omega
theorem string_le {H : Type} (s : ByteArray) : s.size ≤ Rows.uptoBulk (DataW.lit (H := H) (.string s.data.toList)) := by
  have e : s.data.toList.length = s.size := by rw [Array.length_toList]; rfl
  simp only [Rows.uptoBulk, e]
  omega
end bulks

section
variable {H : Type} {enc : TypeId × Value → H} {W : World} {spare : Nat → Bool} {held : Bool}
/-- How long records are that came in. -/
theorem recs_bulk {fuel : Nat} {a : Option Addr} {cap : Nat} {l : List Rec} {x : DataW H × List MemPlace} (hf : DataW.trod enc Try.prog W 0 spare held fuel 25 [.slice a l.length cap] = some x) (hr : RecsAt W (.slice a l.length cap) l) :
    l.length ≤ Rows.uptoBulk x.1 ∧ ∀ r ∈ l, r.owner.size ≤ Rows.uptoBulk x.1 := by
  rcases open_slice_fields Try.underlying25 Try.underlying41 (by kernel_rfl) (by kernel_rfl) hf with ⟨hcs, _⟩ | ⟨a', len, cap', m, D, Pl, hcs, hb, hl, hm, hmm, hx, hi⟩
  · simp only [List.cons.injEq, and_true, Value.slice.injEq] at hcs
    have h0 : l = [] := List.eq_nil_of_length_eq_zero hcs.2.1
    subst h0
    exact ⟨Nat.zero_le _, fun r hr => by simp at hr⟩
  · simp only [List.cons.injEq, and_true, Value.slice.injEq] at hcs
    obtain ⟨rfl, hlen, rfl⟩ := hcs
    have hnm : len ≤ m := by rw [hmm]; split <;> omega
    rw [hx]
    refine ⟨?_, fun r hrm => ?_⟩
    · have := bulks.slice_len ((List.range len).map D) ((List.range (m - len)).map fun j => D (len + j))
      rw [List.length_map, List.length_range] at this
      show l.length ≤ Rows.uptoBulk (DataW.slice ((List.range len).map D) ((List.range (m - len)).map fun j => D (len + j)))
      omega
    · obtain ⟨k, hk, rfl⟩ := List.getElem_of_mem hrm
      obtain ⟨ys, n, hD, _, _, hfs⟩ := hi k (by omega)
      obtain ⟨v0, y0, c0, hy0, t0⟩ := hfs 0 _ rfl
      obtain ⟨s, e0, hs, _⟩ := DataW.trod_string Try.underlying9 t0
      simp only [List.cons.injEq, and_true] at e0
      subst e0
      obtain ⟨_, _, hv, _, hrr⟩ := hr
      simp only [Value.slice.injEq] at hv
      obtain ⟨b, off, hbo, _, q0, _⟩ := hrr k hk
      rw [← hv.1] at hbo
      simp only [Option.some.injEq] at hbo
      subst hbo
      rw [Addr.add_lit] at c0
      have c0' : W.cell? ⟨b, off + k * 5, none⟩ = some (.string s) := c0
      rw [q0] at c0'
      simp only [Option.some.injEq, Value.string.injEq] at c0'
      rw [c0']
      have h1 := bulks.string_le (H := H) s
      have h2 : DataW.lit (H := H) (.string s.data.toList) ∈ ys.map (·.1) := List.mem_map.2 ⟨y0, List.mem_of_getElem? hy0, by rw [hs]⟩
      have h3 := bulks.agg_le h2
      rw [← hD] at h3
      have h4 : D k ∈ (List.range len).map D := List.mem_map.2 ⟨k, List.mem_range.2 (by omega), rfl⟩
      have h5 := bulks.slice_part (sp := (List.range (m - len)).map fun j => D (len + j)) h4
      show s.size ≤ Rows.uptoBulk (DataW.slice ((List.range len).map D) ((List.range (m - len)).map fun j => D (len + j)))
      omega
end
end Go.Proofs.Ytnloommafgnanaa
