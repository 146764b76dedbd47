/-
  policy.address, policy.NewLimiter: what they answer; what a limiter is in memory.
-/
import Derived.Test.YtnloommafgnanaaChecked
import Derived.Test.YtnloommafgnanaaQMem
import Derived.Test.YtnloommafgnanaaQLimPlain
import Derived.BigQuiet
import Derived.Deep.QuietTactic
import Derived.WalkSpells
namespace Go.Proofs.Ytnloommafgnanaa
open Go.RowKit

/-- An address has four bytes or sixteen. -/
def addrB (s : ByteArray) : Bool := s.size == 4 || s.size == 16

theorem address_any (s : ByteArray) (w : World) : Calls Try.prog 43 #[.string s] w fun e w' => e = .returned (.bool (addrB s)) ∧ w = w' := by
  by_cases h4 : s.size = 4
  · have e1 : addrB s = true := by simp [addrB, h4]
    have E1 := Lib.hid e1; clear e1
    go_enter Try.func43, Try.ntmps43
    go_wp2
    go_ret
    exact ⟨by rw [E1.out]; rfl, rfl⟩
  · by_cases h16 : s.size = 16
    · have e1 : addrB s = true := by simp [addrB, h16]
      have E1 := Lib.hid e1; clear e1
      go_enter Try.func43, Try.ntmps43
      go_wp2
      go_ret
      exact ⟨by rw [E1.out]; rfl, rfl⟩
    · have e1 : addrB s = false := by simp [addrB, h4, h16]
      have E1 := Lib.hid e1; clear e1
      have b4 : ((s.size : Int) == 4) = false := by rw [beq_eq_false_iff_ne]; omega
      have b16 : ((s.size : Int) == 16) = false := by rw [beq_eq_false_iff_ne]; omega
      go_enter Try.func43, Try.ntmps43
      go_wp2
      go_ret
      exact ⟨by rw [E1.out]; rfl, rfl⟩

/-! ### What a limiter is in memory -/

/-- The blocks of the program's limiter: itself, those who were seen, texts, the map. -/
def LimT : Obj → Prop
  | .cells _ t _ => t = 74 ∨ t = 78 ∨ t = 9
  | .map _ _ => True
  | _ => False

/-- One who was seen, and its block. -/
abbrev Zone1 := lim.One × Nat
def limKeyV (z : Zone1) : Value := .string z.1.1
def entV (z : Zone1) : Value × Value := (.string z.1.1, .pointer (some ⟨z.2, 0, none⟩))
def cellsV (x : Int × Int) : Array Value := #[.int .i64 x.1, .int .i64 x.2]

structure Lim (w : World) (B lp : Nat) (rate burst : Int) (Z : List Zone1) (mb : Nat) (ov : Value) : Prop where
  lim : w.heap[lp]? = some (.cells #[.int .i64 rate, .int .i64 burst, .map (some mb), ov] 74 (0, 0))
  hB : B ≤ lp
  hM : B ≤ mb
  map : MapAt w mb (Z.map entV)
  row : RowAt w B 9 1 ov Z.length (Z.map limKeyV)
  seen : ∀ z ∈ Z, B ≤ z.2 ∧ w.heap[z.2]? = some (.cells (cellsV z.1.2) 78 (0, 0))
  nodup : (Z.map (·.2)).Nodup

/-- A limiter that keeps S. -/
def LimInv (w : World) (B lp : Nat) (rate burst : Int) (S : List lim.One) : Prop :=
  ∃ Z mb ov, Z.map (·.1) = S ∧ Lim w B lp rate burst Z mb ov

theorem Lim.fr {w w' : World} {B lp B' : Nat} {rate burst : Int} {Z : List Zone1} {mb : Nat} {ov : Value} {T : Obj → Prop} (h : Lim w B lp rate burst Z mb ov) (hf : Fr B' T w w') (hT : ∀ o, LimT o → ¬ T o) : Lim w' B lp rate burst Z mb ov :=
  ⟨hf.kept _ _ h.lim (hT _ (.inl rfl)), h.hB, h.hM, h.map.keep fun o ho => by
      obtain ⟨es, c, h1, _⟩ := h.map
      rw [h1] at ho; cases ho
      exact hf.kept _ _ h1 (hT _ trivial),
    h.row.fr hf fun _ => hT _ (.inr (.inr rfl)), fun z hz => ⟨(h.seen z hz).1, hf.kept _ _ (h.seen z hz).2 (hT _ (.inr (.inl rfl)))⟩, h.nodup⟩
theorem LimInv.fr {w w' : World} {B lp B' : Nat} {rate burst : Int} {S : List lim.One} {T : Obj → Prop} (h : LimInv w B lp rate burst S) (hf : Fr B' T w w') (hT : ∀ o, LimT o → ¬ T o) : LimInv w' B lp rate burst S := by
  obtain ⟨Z, mb, ov, hS, hL⟩ := h
  exact ⟨Z, mb, ov, hS, hL.fr hf hT⟩

theorem lim_law : WideMaps.KeyLaw Try.prog 9 := WideMaps.string_law Try.underlying9
theorem lim_zero (w : World) : (zeroValue 76).run Try.prog w = .ok (.pointer none) w := by kernel_rfl
theorem lim_key {s : ByteArray} (h : s.size ≤ 7) : keyOf Try.prog 9 (.string s) = some (.string s.data.toList) := by
  simp [keyOf, mapKey, Try.underlying9]
  unfold maxLen
  omega

section
variable {w : World} {B lp : Nat} {rate burst : Int} {Z : List Zone1} {mb : Nat} {ov : Value}
theorem Lim.keys (hg : lim.Good burst (Z.map (·.1))) : KeysOk Try.prog 9 (Z.map entV) := by
  intro x hx
  obtain ⟨z, hz, rfl⟩ := List.mem_map.1 hx
  exact ⟨_, lim_key (hg.size z.1 (List.mem_map_of_mem hz))⟩

/-- Who is there is found. -/
theorem Lim.look_there (h : Lim w B lp rate burst Z mb ov) (hg : lim.Good burst (Z.map (·.1))) {who : ByteArray} (hp : lim.place (Z.map (·.1)) who < (Z.map (·.1)).length) (hs : who.size ≤ 7) :
    ∃ z, Z[lim.place (Z.map (·.1)) who]? = some z ∧ z.1.1 = who ∧ (Instr.lookup 72 (.map (some mb)) (.string who) false).run Try.prog w = .ok (.pointer (some ⟨z.2, 0, none⟩)) w := by
  obtain ⟨y, hy⟩ := lim.place_at hp
  have hpl := lim.place_only hg hy
  rw [List.getElem?_map] at hy
  obtain ⟨z, hz, he⟩ := Option.map_eq_some_iff.1 hy
  rcases map_lookup lim_law Try.underlying72 lim_zero h.map (Lim.keys hg) (lim_key hs) false with ⟨hn, _⟩ | ⟨j, v, hj, hr⟩
  · exact absurd (by unfold entV; rw [he]) (hn (entV z) (List.mem_map_of_mem (List.mem_of_getElem? hz)))
  · rw [List.getElem?_map] at hj
    obtain ⟨z', hz', he'⟩ := Option.map_eq_some_iff.1 hj
    simp only [entV, Prod.mk.injEq, Value.string.injEq] at he'
    have hj2 : (Z.map (·.1))[j]? = some (who, z'.1.2) := by rw [List.getElem?_map, hz', ← he'.1]; rfl
    have := lim.place_only hg hj2
    rw [this] at hz
    rw [hz] at hz'
    cases hz'
    refine ⟨z, by rw [this]; exact hz, he'.1, ?_⟩
    rw [hr, ← he'.2]; rfl

/-- Who is not there is not found; where he is laid. -/
theorem Lim.look_new (h : Lim w B lp rate burst Z mb ov) (hg : lim.Good burst (Z.map (·.1))) {who : ByteArray} (hp : ¬ lim.place (Z.map (·.1)) who < (Z.map (·.1)).length) (hs : who.size ≤ 7) :
    (Instr.lookup 72 (.map (some mb)) (.string who) false).run Try.prog w = .ok (.pointer none) w := by
  rcases map_lookup lim_law Try.underlying72 lim_zero h.map (Lim.keys hg) (lim_key hs) false with ⟨_, hr⟩ | ⟨j, v, hj, hr⟩
  · exact hr
  · rw [List.getElem?_map] at hj
    obtain ⟨z', hz', he'⟩ := Option.map_eq_some_iff.1 hj
    simp only [entV, Prod.mk.injEq, Value.string.injEq] at he'
    exact absurd he'.1 (lim.place_not hp z'.1 (List.mem_map_of_mem (List.mem_of_getElem? hz')))

theorem Lim.update_new {w1 : World} (h : MapAt w1 mb (Z.map entV)) (hg : lim.Good burst (Z.map (·.1))) {who : ByteArray} (hp : ¬ lim.place (Z.map (·.1)) who < (Z.map (·.1)).length) (hs : who.size ≤ 7) (v : Value) :
    ∃ es c, (Instr.mapUpdate 72 (.map (some mb)) (.string who) v).run Try.prog w1 = .ok () (putMap w1 mb es c) ∧ MapAt (putMap w1 mb es c) mb (Z.map entV ++ [(.string who, v)]) := by
  rcases map_update lim_law Try.underlying72 h (Lim.keys hg) (val := v) (lim_key hs) with ⟨_, hr⟩ | ⟨j, v, hj, _⟩
  · exact hr
  · rw [List.getElem?_map] at hj
    obtain ⟨z', hz', he'⟩ := Option.map_eq_some_iff.1 hj
    simp only [entV, Prod.mk.injEq, Value.string.injEq] at he'
    exact absurd he'.1 (lim.place_not hp z'.1 (List.mem_map_of_mem (List.mem_of_getElem? hz')))

/-- The eldest is struck. -/
theorem Lim.delete_first {w1 : World} {z : Zone1} (h : MapAt w1 mb ((z :: Z).map entV)) (hk : ∀ x ∈ z :: Z, x.1.1.size ≤ 7) (hn : ∀ x ∈ Z, x.1.1 ≠ z.1.1) :
    ∃ es c, (∀ ty, (Builtin.delete_ #[72, 9] ty #[.map (some mb), .string z.1.1]).run Try.prog w1 = .ok (.tuple #[]) (putMap w1 mb es c)) ∧ MapAt (putMap w1 mb es c) mb (Z.map entV) := by
  have hk1 : KeysOk Try.prog 9 ((z :: Z).map entV) := by
    intro x hx
    obtain ⟨z, hz, rfl⟩ := List.mem_map.1 hx
    exact ⟨_, lim_key (hk z hz)⟩
  rcases map_delete lim_law Try.underlying72 h hk1 (lim_key (hk z (by simp))) with ⟨hn2, _⟩ | ⟨j, v, hj, hr⟩
  · exact absurd rfl (hn2 (entV z) (by simp))
  · have hj0 : j = 0 := by
      rcases Nat.eq_zero_or_pos j with h0 | h0
      · exact h0
      · obtain ⟨i, rfl⟩ : ∃ i, j = i + 1 := ⟨j - 1, by omega⟩
        rw [List.map_cons, List.getElem?_cons_succ, List.getElem?_map] at hj
        obtain ⟨z', hz', he'⟩ := Option.map_eq_some_iff.1 hj
        simp only [entV, Prod.mk.injEq, Value.string.injEq] at he'
        exact absurd he'.1 (hn z' (List.mem_of_getElem? hz'))
    subst hj0
    exact hr
end

/-- NewLimiter of what it takes. -/
theorem newLimiter_good (rate burst : Int) (w : World) (hr0 : 0 ≤ rate) (hr1 : rate ≤ 1000) (hb0 : 1 ≤ burst) (hb1 : burst ≤ 1000) :
    Calls Try.prog 15 #[.int .i64 rate, .int .i64 burst] w fun e w' =>
      ∃ lp, e = .returned (.tuple #[.pointer (some ⟨lp, 0, none⟩), .int .i64 0]) ∧ LimInv w' w.heap.size lp rate burst [] ∧ Fr w.heap.size LimT w w' := by
  have hmm := @run_makeMap Try.prog
  go_enter Try.func15, Try.ntmps15
  go_wp2
  go_ret2
  refine ⟨_, rfl, ⟨[], w.heap.size, .slice none 0 0, rfl, ⟨heap_new_at (by simp), by simp, by simp, ⟨#[], 0, ?_, rfl⟩, RowAt.nil_ _ _ _ _, by simp, List.nodup_nil⟩⟩, ?_⟩
  · exact heap_alloc_keep (heap_alloc_new _ _) _
  · exact ((Fr.refl _ _ _).alloc (Nat.le_refl _) _).alloc (by simp) _

end Go.Proofs.Ytnloommafgnanaa
