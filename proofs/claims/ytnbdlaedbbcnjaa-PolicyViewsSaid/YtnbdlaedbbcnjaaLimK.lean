/-
  gazetteerlaw11.PolicyLimits holds for every input: each asking of the program's limiter answers as the document's does; what NewLimiter does not take is refused by both tests. No condition.
-/
import Derived.Test.YtnbdlaedbbcnjaaLimL
import Derived.Test.YtnbdlaedbbcnjaaRows
import Derived.ProofKit
import Derived.OpenShut
import Derived.ChangeOld
import Derived.Test.YtnbdlaedbbcnjaaOpen
namespace Go.Proofs.Ytnbdlaedbbcnjaa
open Go.RowKit Go.ChangeShapes Go.WideShapes Go.ChangeAt Go.Deep

theorem limits_bad (rate burst : Int) (v : Value) (w : World) (h : rate < 0 ∨ 1000 < rate ∨ burst < 1 ∨ 1000 < burst) :
    Calls Try.prog 3 #[.int .i64 rate, .int .i64 burst, v] w fun e w' => e = .returned (.bool true) ∧ Below w.heap.size w w' := by
  have HH := Lib.hid h
  by_cases h1 : rate < 0
  · clear h
    go_enter Try.func3, Try.ntmps3
    go_wp2_with (first
      | (go_at_call 6; refine (newLimiter_bad rate burst w HH.out).mono ?_; rintro e w1 ⟨rfl, rfl⟩)
      | (go_at_call 7; refine (alive_any _).mono ?_; rintro e w2 ⟨rfl, hf2⟩))
    go_ret
    exact ⟨rfl, hf2⟩
  · by_cases h2 : 1000 < rate
    · clear h
      go_enter Try.func3, Try.ntmps3
      go_wp2_with (first
        | (go_at_call 6; refine (newLimiter_bad rate burst w HH.out).mono ?_; rintro e w1 ⟨rfl, rfl⟩)
        | (go_at_call 7; refine (alive_any _).mono ?_; rintro e w2 ⟨rfl, hf2⟩))
      go_ret
      exact ⟨rfl, hf2⟩
    · by_cases h3 : burst < 1
      · clear h
        go_enter Try.func3, Try.ntmps3
        go_wp2_with (first
          | (go_at_call 6; refine (newLimiter_bad rate burst w HH.out).mono ?_; rintro e w1 ⟨rfl, rfl⟩)
          | (go_at_call 7; refine (alive_any _).mono ?_; rintro e w2 ⟨rfl, hf2⟩))
        go_ret
        exact ⟨rfl, hf2⟩
      · have h4 : 1000 < burst := by omega
        have bd : decide (burst ≤ 1000) = false := decide_eq_false (by omega)
        clear h
        go_enter Try.func3, Try.ntmps3
        go_wp2_with (first
          | (go_at_call 6; refine (newLimiter_bad rate burst w HH.out).mono ?_; rintro e w1 ⟨rfl, rfl⟩)
          | (go_at_call 7; refine (alive_any _).mono ?_; rintro e w2 ⟨rfl, hf2⟩))
        go_ret
        exact ⟨rfl, hf2⟩

theorem own : ownKnob Try.prog.godebug = none := by kernel_rfl
theorem laidOut : laidOutB Try.prog = true := by kernel_rfl

/-- The law's walk, whatever the arguments. -/
theorem limits_any (rate burst : Int) (A : Option Addr) (n c : Nat) (cs : List (ByteArray × Int)) (w : World)
    (hlen : cs.length = n) (hm : n ≤ 9223372036854775807) (hcs : ∀ c ∈ cs, -9223372036854775808 ≤ c.2 ∧ c.2 ≤ 9223372036854775807)
    (hcell : ∀ (k : Nat) (x : ByteArray × Int), cs[k]? = some x → ∃ b off, A = some ⟨b, off, none⟩ ∧ b < w.heap.size ∧ w.cell? ⟨b, off + k * 2, none⟩ = some (.string x.1) ∧ w.cell? ⟨b, off + k * 2 + 1, none⟩ = some (.int .i64 x.2)) :
    Calls Try.prog 3 #[.int .i64 rate, .int .i64 burst, .slice A n c] w fun e w' => e = .returned (.bool true) ∧ Below w.heap.size w w' := by
  by_cases h : rate < 0 ∨ 1000 < rate ∨ burst < 1 ∨ 1000 < burst
  · exact limits_bad rate burst _ w h
  · exact limits_good rate burst A n c cs w (by omega) (by omega) (by omega) (by omega) hlen hm hcs hcell

/-- A slice of calls that came in, as one list. -/
theorem open_calls {H : Type} {enc : TypeId × Value → H} {W : World} {A : Option Addr} {n c : Nat} {fuel : Nat} {x : DataW H × List MemPlace} {spare : Nat → Bool} {held : Bool}
    (hf : DataW.trod enc Try.prog W 0 spare held fuel 22 [.slice A n c] = some x) :
    n ≤ 9223372036854775807 ∧ ∃ cs : List (ByteArray × Int), cs.length = n ∧ (∀ c ∈ cs, -9223372036854775808 ≤ c.2 ∧ c.2 ≤ 9223372036854775807) ∧
      ∀ (k : Nat) (y : ByteArray × Int), cs[k]? = some y → ∃ b off, A = some ⟨b, off, none⟩ ∧ b < W.heap.size ∧ W.cell? ⟨b, off + k * 2, none⟩ = some (.string y.1) ∧ W.cell? ⟨b, off + k * 2 + 1, none⟩ = some (.int .i64 y.2) := by
  rcases open_slice_fields Try.underlying22 Try.underlying33 (by kernel_rfl) (by kernel_rfl) hf with ⟨hcs, _⟩ | ⟨a, len, cap, m, D, Pl, hcs, hb, hl, hm, hmm, hx, hi⟩
  · simp only [List.cons.injEq, Value.slice.injEq, and_true] at hcs
    obtain ⟨rfl, rfl, rfl⟩ := hcs
    exact ⟨by omega, [], rfl, by simp, fun k y h => by simp at h⟩
  · simp only [List.cons.injEq, Value.slice.injEq, and_true] at hcs
    obtain ⟨rfl, rfl, rfl⟩ := hcs
    unfold maxLen at hm
    have hnm : n ≤ m := by rw [hmm]; split <;> omega
    obtain ⟨cs, h1, h2⟩ := list_of (P := fun i (y : ByteArray × Int) => W.cell? (a.add (i * 2)) = some (.string y.1) ∧ W.cell? (a.add (i * 2 + 1)) = some (.int .i64 y.2) ∧ -9223372036854775808 ≤ y.2 ∧ y.2 ≤ 9223372036854775807) n (fun i hin => by
      obtain ⟨ys, k, _, _, _, hf⟩ := hi i (by omega)
      obtain ⟨v0, y0, c0, _, t0⟩ := hf 0 _ rfl
      obtain ⟨v1, y1, c1, _, t1⟩ := hf 1 _ rfl
      obtain ⟨s, e0, _⟩ := DataW.trod_string Try.underlying9 t0
      obtain ⟨q, e1, _, wq⟩ := DataW.trod_int Try.underlying3 t1
      simp only [List.cons.injEq, and_true] at e0 e1
      subst e0 e1
      exact ⟨(s, q), c0, c1, i64_bounds wq⟩)
    refine ⟨by omega, cs, h1, fun c hc => ?_, fun k y hk => ?_⟩
    · obtain ⟨k, hk, rfl⟩ := List.mem_iff_getElem.1 hc
      exact (h2 k _ (List.getElem?_eq_getElem hk)).2.2
    · obtain ⟨c0, c1, _⟩ := h2 k y hk
      obtain ⟨b, off, spot⟩ := a
      have hspot : spot = none := by
        have hk0 : 0 < cs.length := by have := (List.getElem?_eq_some_iff.1 hk).1; omega
        have := World.cell?_spot (h2 0 _ (List.getElem?_eq_getElem hk0)).1
        simpa [Addr.add] using this
      subst hspot
      rw [Addr.add_lit] at c0 c1
      exact ⟨b, off, rfl, World.block_lt_of_cell? _ _ c0, c0, by rw [Nat.add_assoc]; exact c1⟩

set_option maxRecDepth 100000 in
theorem limits_lifted (os : Os) (started : os.Started) (H : Type) (enc : TypeId × Value → H) :
    ReturnsInHanded {} Try.checked os 3 .any (Rows.policyLimitsSpec.pre6 enc Try.prog Try.f3 Rows.policyLimitsRow.domain false) (Rows.policyLimitsSpec.post enc Try.prog Try.f3 false true false false) := by
  refine returnsInHanded_of_change (C := Try.checked) own started (by kernel_rfl) Try.func3
    (ChangeSpec.witness6 (enc := enc) (C := Try.checked) false ⟨#[], #[.int .i64 0, .int .i64 0, .slice none 0 0], []⟩ 8 (by kernel_rfl) (by kernel_rfl) (by kernel_rfl) (by kernel_rfl)) ?_
  intro W base args ds gs before hval0 hW hcnd _
  have hval : ∀ (j : Nat) t v, Try.f3.params[j]? = some t → args[j]? = some v → Value.okWide Try.prog W .any base t v := hval0
  have hW' := hW
  obtain ⟨p, q, hA0, hV, rfl, hfz, hnd⟩ := hW
  have hA : DataW.TrodAll enc Try.prog W 0 (fun _ => true) true Try.f3.params.toList args.toList ds p := hA0
  rw [Try.params3] at hA hval
  obtain ⟨v0, vs0, d0, ds0, p0, q0, hargs, rfl, rfl, h0, r0⟩ := trodAll_cons hA
  obtain ⟨v1, vs1, d1, ds1, p1, q1, rfl, rfl, rfl, h1, r1⟩ := trodAll_cons r0
  obtain ⟨v2, vs2, d2, ds2, p2, q2, rfl, rfl, rfl, h2, r2⟩ := trodAll_cons r1
  obtain ⟨rfl, rfl, rfl⟩ := trodAll_nil r2
  obtain rfl : args = #[v0, v1, v2] := by cases args; simp_all
  obtain ⟨rfl, rfl⟩ := trodVars_none hV
  obtain ⟨a0, rfl, rfl, rfl, w0⟩ := open_int Try.underlying3 (hval 0 3 v0 rfl rfl) h0
  obtain ⟨a1, rfl, rfl, rfl, w1⟩ := open_int Try.underlying3 (hval 1 3 v1 rfl rfl) h1
  obtain ⟨A, n, c, rfl⟩ := okWide_slice Try.underlying22 (hval 2 22 v2 rfl rfl)
  have k2 := h2
  have lt2 : ∀ x ∈ p2, x.block < W.heap.size := by obtain ⟨m, hm⟩ := k2; exact DataW.trod_lt m _ _ _ hm
  obtain ⟨hn, cs, g1, g2, g3⟩ : n ≤ 9223372036854775807 ∧ ∃ cs : List (ByteArray × Int), cs.length = n ∧ (∀ c ∈ cs, -9223372036854775808 ≤ c.2 ∧ c.2 ≤ 9223372036854775807) ∧
      ∀ (k : Nat) (y : ByteArray × Int), cs[k]? = some y → ∃ b off, A = some ⟨b, off, none⟩ ∧ b < W.heap.size ∧ W.cell? ⟨b, off + k * 2, none⟩ = some (.string y.1) ∧ W.cell? ⟨b, off + k * 2 + 1, none⟩ = some (.int .i64 y.2) := by
    obtain ⟨fuel, hf⟩ := h2
    exact open_calls hf
  clear hA0 hval0
  refine (limits_any a0 a1 A n c cs W g1 hn g2 g3).mono fun e W' ⟨he, bel⟩ => ?_
  subst he
  exact ⟨_, rfl, _, _, _, [], _, [], hW', trodAll_mk1 (shut_bool Try.underlying4 _), (trodAll_cons_mk (shut_int Try.underlying3 w0) (trodAll_cons_mk (shut_int Try.underlying3 w1) (trodAll_cons_mk (Below.trod laidOut (by kernel_rfl) (of_decide_eq_true (by kernel_rfl)) k2 bel lt2) trodAll_mk0))), rfl, bel.frame _, fun h => by cases h⟩

theorem policyLimits_holds : Rows.PolicyLimitsSaid :=
  OpenClaim.holds_of_wide 3 Try.f3 rfl rfl rfl rfl rfl rfl rfl ⟨rfl, rfl, rfl, rfl, rfl⟩ rfl rfl rfl rfl rfl (by kernel_rfl) Try.func3 (by kernel_rfl)
    (of_decide_eq_true (by kernel_rfl)) (by unfold Func.isWrapper; first | (rw [if_pos (by decide +kernel)]; kernel_rfl) | (rw [if_neg (by decide +kernel)]; exact ⟨rfl, rfl⟩))
    (fun os started H enc _ => limits_lifted os started H enc)
#print axioms policyLimits_holds
end Go.Proofs.Ytnbdlaedbbcnjaa
