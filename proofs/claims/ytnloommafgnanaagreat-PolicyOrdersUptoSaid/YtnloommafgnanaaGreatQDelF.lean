/-
  slices.IndexFunc and slices.DeleteFunc of records.
-/
import Derived.Test.YtnloommafgnanaaGreatQMsgP
import Derived.Test.YtnloommafgnanaaGreatQRefU
import Derived.Lib.SliceRun
namespace Go.Proofs.YtnloommafgnanaaGreat
open Go.RowKit Go.Shelf Go.Proofs.YtnloommafgnanaaGreat.nm Go.Proofs.YtnloommafgnanaaGreat.od

namespace df
def idx (p : Rec → Bool) (l : List Rec) : Int := match l.findIdx? p with | some k => k | none => -1
theorem idx_none {p : Rec → Bool} {l : List Rec} (h : ∀ j (hj : j < l.length), p l[j] = false) : idx p l = -1 := by
  unfold idx
  rw [List.findIdx?_eq_none_iff.2]
  intro x hx
  obtain ⟨k, hk, rfl⟩ := List.getElem_of_mem hx
  exact h k hk
theorem idx_some {p : Rec → Bool} {l : List Rec} {k : Nat} (hk : k < l.length) (h : ∀ j (hj : j < l.length), j < k → p l[j] = false) (h1 : p l[k] = true) : idx p l = k := by
  unfold idx
  rw [List.findIdx?_eq_some_iff_getElem.2 ⟨hk, h1, fun j hj => by rw [h j (by omega) hj]; simp⟩]
def keep (p : Rec → Bool) (l : List Rec) : List Rec := l.filter fun x => !p x
theorem keep_all {p : Rec → Bool} {l : List Rec} (h : ∀ j (hj : j < l.length), p l[j] = false) : keep p l = l := by
  unfold keep
  rw [List.filter_eq_self]
  intro x hx
  obtain ⟨k, hk, rfl⟩ := List.getElem_of_mem hx
  rw [h k hk]; rfl
theorem keep_next {p : Rec → Bool} {l : List Rec} {j : Nat} (hj : j < l.length) : keep p (l.take (j + 1)) = keep p (l.take j) ++ (if p l[j] = true then [] else [l[j]]) := by
  unfold keep
  rw [List.take_succ_eq_append_getElem hj, List.filter_append]
  cases h : p l[j] <;> simp [h]
/-- The row under way: what is kept of the first j, then what may be anything, then the rest. -/
def Under (p : Rec → Bool) (l : List Rec) (j : Nat) (M : List Rec) : Prop := M.length = l.length ∧ M.take (keep p (l.take j)).length = keep p (l.take j) ∧ M.drop j = l.drop j ∧ (keep p (l.take j)).length < j
theorem under_first {p : Rec → Bool} {l : List Rec} {k : Nat} (hk : k < l.length) (h : ∀ j (hj : j < l.length), j < k → p l[j] = false) (h1 : p l[k] = true) : Under p l (k + 1) l ∧ (keep p (l.take (k + 1))).length = k := by
  have e : keep p (l.take k) = l.take k := keep_all fun j hj => by
    rw [List.length_take] at hj
    rw [List.getElem_take]
    exact h j (by omega) (by omega)
  have e2 : keep p (l.take (k + 1)) = l.take k := by rw [keep_next hk, e, if_pos h1, List.append_nil]
  have e3 : (l.take k).length = k := by rw [List.length_take]; omega
  refine ⟨⟨rfl, ?_, rfl, ?_⟩, ?_⟩
  · rw [e2, e3]
  · rw [e2, e3]; omega
  · rw [e2, e3]
theorem under_at {p : Rec → Bool} {l M : List Rec} {j : Nat} (h : Under p l j M) (hj : j < l.length) (hm : j < M.length) : M[j] = l[j] := by
  have hd : M.drop j = l.drop j := h.2.2.1
  have e : (M.drop j)[0]? = (l.drop j)[0]? := by rw [hd]
  rw [List.getElem?_drop, List.getElem?_drop, Nat.add_zero, List.getElem?_eq_getElem hm, List.getElem?_eq_getElem hj] at e
  simpa using e
theorem under_drop {p : Rec → Bool} {l M : List Rec} {j : Nat} (h : Under p l j M) (hj : j < l.length) (hp : p l[j] = true) : Under p l (j + 1) M := by
  have e : keep p (l.take (j + 1)) = keep p (l.take j) := by rw [keep_next hj, if_pos hp, List.append_nil]
  refine ⟨h.1, by rw [e]; exact h.2.1, ?_, by rw [e]; have := h.2.2.2; omega⟩
  rw [← List.drop_drop, ← List.drop_drop, h.2.2.1]
theorem under_keep {p : Rec → Bool} {l M : List Rec} {j : Nat} (h : Under p l j M) (hj : j < l.length) (hp : p l[j] = false) : Under p l (j + 1) (M.set (keep p (l.take j)).length l[j]) ∧ (keep p (l.take (j + 1))).length = (keep p (l.take j)).length + 1 := by
  have e : keep p (l.take (j + 1)) = keep p (l.take j) ++ [l[j]] := by rw [keep_next hj, if_neg (by rw [hp]; simp)]
  have hlt := h.2.2.2
  refine ⟨⟨by rw [List.length_set]; exact h.1, ?_, ?_, ?_⟩, ?_⟩
  · rw [e, List.length_append, List.length_cons, List.length_nil, List.take_succ_eq_append_getElem (by rw [List.length_set, h.1]; omega), List.getElem_set_self, List.take_set_of_le (Nat.le_refl _), h.2.1]
  · rw [List.drop_set_of_lt (by omega), ← List.drop_drop, ← List.drop_drop, h.2.2.1]
  · rw [e, List.length_append]; simp; omega
  · rw [e, List.length_append]; rfl
end df

abbrev zeroR : Rec := ⟨⟨#[]⟩, 0, 0, 0, ⟨#[]⟩⟩
theorem zeros_recs (n : Nat) : (Builtin.zeroCells (recC zeroR).toArray n).toList = recsC (List.replicate n zeroR) := by
  apply List.ext_getElem?
  intro i
  by_cases hi : i < n * 5
  · have h2 := recsC_at (List.replicate n zeroR) i (by rw [List.length_replicate]; exact hi)
    rw [h2, List.getElem_replicate]
    have hs : (recC zeroR).toArray.size = 5 := rfl
    rw [List.getElem?_eq_getElem (by simp [Builtin.zeroCells]; omega)]
    have h5 : i % 5 < 5 := Nat.mod_lt _ (by omega)
    simp only [Builtin.zeroCells, hs, Array.toList_map, List.getElem_map, Array.getElem_toList, Array.getElem_range]
    exact (by
      have key : ∀ k, k < 5 → some ((recC zeroR).toArray[k]!) = (recC zeroR)[k]? := fun k hk => by
        match k, hk with
        | 0, _ => rfl
        | 1, _ => rfl
        | 2, _ => rfl
        | 3, _ => rfl
        | 4, _ => rfl
      exact key _ h5)
  · rw [List.getElem?_eq_none (by simp [Builtin.zeroCells]; omega), List.getElem?_eq_none (by rw [recsC_len, List.length_replicate]; omega)]
/-- clear of records. -/
theorem run_clear_recs (w : World) (ty : TypeId) (b o n c : Nat) (hn : 0 < n) (hc : ∀ j, j < n * 5 → (w.cell? ⟨b, o + j, none⟩).isSome = true) (hf : ∀ j, j < n * 5 → w.frozen? ⟨b, o + j, none⟩ = false) :
    (Builtin.clear_ #[22] ty #[.slice (some ⟨b, o, none⟩) n c]).run Tryz.prog w = .ok (.tuple #[]) (w.setCells b o (recsC (List.replicate n zeroR))) := by
  have hl : (recsC (List.replicate n zeroR)).length = n * 5 := by rw [recsC_len, List.length_replicate]
  have hst := run_storeCells_cells (P := Tryz.prog) b o (recsC (List.replicate n zeroR)) 0 w (by rw [hl]; simpa using hc) (by rw [hl]; simpa using hf) (recs_one _)
  simp only [Nat.add_zero] at hst
  have hz : ∀ w, (zeroValue 42).run Tryz.prog w = .ok (recV zeroR) w := fun w => by kernel_rfl
  have hzc : (Builtin.zeroCells (recV zeroR).cells n).toList = recsC (List.replicate n zeroR) := zeros_recs n
  obtain ⟨m, rfl⟩ : ∃ m, n = m + 1 := ⟨n - 1, by omega⟩
  simp [Builtin.clear_, run_underlying Tryz.underlying22, hz, hzc, hst]

theorem recsC_take (l : List Rec) : ∀ (m : Nat), (recsC l).take (m * 5) = recsC (l.take m) := by
  induction l with
  | nil => intro m; simp [recsC]
  | cons a t ih =>
    intro m
    cases m with
    | zero => rfl
    | succ m =>
      have e : recsC (a :: t) = .string a.owner :: .int .i64 a.typ :: .int .i64 a.cls :: .int .i64 a.ttl :: .string a.data :: recsC t := rfl
      rw [e, show (m + 1) * 5 = m * 5 + 1 + 1 + 1 + 1 + 1 by omega]
      simp only [List.take_succ_cons]
      rw [ih m]
      rfl
/-- A tail of a row is cleared. -/
theorem own_clear {w : World} {base g n cap i : Nat} {M : List Rec} (h : w.ownsRow base 42 5 (.slice (some ⟨g, 0, none⟩) n cap) n (recsC M)) (hi : i < n) :
    (∀ ty, (Builtin.clear_ #[22] ty #[.slice (some ⟨g, i * 5, none⟩) (n - i) (cap - i)]).run Tryz.prog w = .ok (.tuple #[]) (w.setCells g (i * 5) (recsC (List.replicate (n - i) zeroR)))) ∧
    (w.setCells g (i * 5) (recsC (List.replicate (n - i) zeroR))).ownsRow base 42 5 (.slice (some ⟨g, 0, none⟩) i cap) i (recsC (M.take i)) ∧
    w.grownBy (w.setCells g (i * 5) (recsC (List.replicate (n - i) zeroR))) (some g) := by
  have hrl : (recsC (List.replicate (n - i) zeroR)).length = (n - i) * 5 := by rw [recsC_len, List.length_replicate]
  have hml : (recsC M).length = n * 5 := h.1
  rcases h.2 with ⟨h0, _⟩ | ⟨g', cap', cur, hv, hb, hg, hn, hc, hz, hx⟩
  · cases h0
  · simp only [Value.slice.injEq, Option.some.injEq, Addr.mk.injEq, and_true, true_and] at hv
    obtain ⟨rfl, rfl⟩ := hv
    obtain ⟨cur', h1, h2, h3, h4⟩ := setCells_heap g 42 (recsC (List.replicate (n - i) zeroR)) (i * 5) cur w hg (by rw [hrl, hz]; have : n * 5 ≤ cap * 5 := Nat.mul_le_mul_right _ hn; omega)
    have hM : M.length = n := by rw [recsC_len] at hml; omega
    refine ⟨fun ty => run_clear_recs w ty g (i * 5) (n - i) (cap - i) (by omega) (fun j hj => ?_) (fun j hj => h.frozenAt _), ⟨by rw [recsC_len, List.length_take]; omega, .inr ⟨g, cap, cur', rfl, hb, h1, by omega, hc, by rw [h2, hz], ?_⟩⟩, h4⟩
    · rw [h.cellAt _ (by omega), List.getElem?_eq_getElem (by omega)]
      rfl
    · have hcl : i * 5 ≤ cur.toList.length := by rw [Array.length_toList, hz]; have : n * 5 ≤ cap * 5 := Nat.mul_le_mul_right _ hn; omega
      rw [h3, List.append_assoc, List.take_append_of_le_length (by rw [List.length_take]; omega), List.take_take, Nat.min_self, ← recsC_take, ← hx, List.take_take, Nat.min_eq_left (by omega)]

set_option maxRecDepth 100000 in
set_option maxHeartbeats 2000000 in
theorem indexFunc_any (g : FuncId) (lb : Array Value) (heg : ∀ args w, (callFunc g args).run Tryz.prog w = .ok (.enter g args) w) (p : Rec → Bool) (base : Nat) (w0 w : World) (l : List Rec) (hl : l.length ≤ 1000000000000) (v : Value)
    (hrv : RecsAt w v l) (hB0 : Below base w0 w) (hbase : base ≤ w.heap.size)
    (hcall : ∀ r, r ∈ l → ∀ X, Below base w0 X → Calls Tryz.prog g (#[recV r] ++ lb) X fun e X' => e = .returned (.bool (p r)) ∧ Below X.heap.size X X') :
    Calls Tryz.prog 48 #[v, .func (.func g) #[] lb] w fun e w' => e = .returned (.int .i64 (df.idx p l)) ∧ Below w.heap.size w w' := by
  obtain ⟨a, cap, rfl, -⟩ := id hrv
  have HCALL := Lib.hid hcall
  clear hcall
  have HRV := Lib.hid hrv; have HB0 := Lib.hid hB0
  clear hrv hB0
  go_enter Tryz.func48, Tryz.ntmps48
  go_wp2_with fail
  go_loopw [8, 5] (fun kv _ wr => ∃ k : Nat, k ≤ l.length ∧ kv = .int .i64 (k : Int) ∧ (∀ j (hj : j < l.length), j < k → p l[j] = false) ∧ Below w.heap.size w wr) (fun kv _ _ => l.length - (intOf kv).toNat)
  case atStart => exact ⟨0, Nat.zero_le _, rfl, (fun j hj h => absurd h (Nat.not_lt_zero _)), Below.refl _ _⟩
  case round =>
    obtain ⟨k, hk, rfl, hno, hB⟩ := hrel
    have hsr := hB.size
    by_cases hlt : k < l.length
    · obtain ⟨_, _, hv, _, hr⟩ := HRV.out.below hB
      simp only [Value.slice.injEq] at hv
      obtain ⟨rfl, -, rfl⟩ := hv
      obtain ⟨bb, off, rfl, hbl, c0, c1, c2, c3, c4⟩ := hr k hlt
      clear hr
      have hki : (k : Int) < (l.length : Int) := by omega
      obtain ⟨r, hr0⟩ : ∃ r, r = l[k] := ⟨_, rfl⟩
      rw [← hr0] at c0 c1 c2 c3 c4
      have hcl := HCALL.out r (by rw [hr0]; exact List.getElem_mem _) wr (HB0.out.trans (hB.mono hbase))
      have HNO := Lib.hid hno; have HB := Lib.hid hB; have HR0 := Lib.hid hr0; have HCL := Lib.hid hcl
      clear hno hB hr0 hcl
      go_wp2_with fail
      refine (HCL.out).mono ?_
      rintro e w2 ⟨rfl, hB2⟩
      have HB2 := Lib.hid (HB.out.trans (hB2.mono hsr))
      clear hB2 c0 c1 c2 c3 c4
      cases hp : p r
      · have hno2 : ∀ j (hj : j < l.length), j < k + 1 → p l[j] = false := fun j hj h => by
          rcases Nat.lt_or_ge j k with h2 | h2
          · exact HNO.out j hj h2
          · obtain rfl : j = k := by omega
            rw [← HR0.out]; exact hp
        have HNO2 := Lib.hid hno2; have HP := Lib.hid hp
        clear hno2 hp
        go_wp2_with fail
        go_roundw
        case rel => exact ⟨k + 1, by omega, by go_num, HNO2.out, HB2.out⟩
        case measure => simp [intOf]; omega
      · have hres := df.idx_some hlt HNO.out (by rw [← HR0.out]; exact hp)
        have HP := Lib.hid hp; have HRES := Lib.hid hres
        clear hp hres
        go_wp2_with fail
        go_ret
        exact ⟨congrArg (fun z => Ending.returned (.int .i64 z)) HRES.out.symm, HB2.out⟩
    · obtain rfl : l.length = k := by omega
      have hres := df.idx_none (p := p) (l := l) (fun j hj => hno j hj hj)
      have HRES := Lib.hid hres; have HB := Lib.hid hB; have HNO := Lib.hid hno
      clear hres hB hno
      clear hlt
      go_wp2_with fail
      go_ret
      exact ⟨congrArg (fun z => Ending.returned (.int .i64 z)) HRES.out.symm, HB.out⟩
end Go.Proofs.YtnloommafgnanaaGreat
