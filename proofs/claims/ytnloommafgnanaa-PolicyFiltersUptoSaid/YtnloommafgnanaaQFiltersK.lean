/-
  gazetteerlaw11.PolicyFilters holds where what it reads is of bulk at most 1048576: which rule counts, and what is said by it, as the document answers; the messages stay as they were.
-/
import Derived.Test.YtnloommafgnanaaRows
import Derived.Test.YtnloommafgnanaaQFilters
import Derived.Test.YtnloommafgnanaaQOpenP
import Derived.Test.YtnloommafgnanaaQOpenU
namespace Go.Proofs.Ytnloommafgnanaa
open Go.RowKit Go.ChangeShapes Go.WideShapes Go.ChangeAt Go.Deep

set_option maxRecDepth 100000 in
set_option maxHeartbeats 1000000 in
theorem filters_lifted (os : Os) (started : os.Started) (H : Type) (enc : TypeId × Value → H) (F : Stop.Interp) :
    ReturnsInHanded {} Try.checked os 3 .any ((Rows.OpenSpec.upto Rows.policyFiltersSpec).pre6 enc Try.prog Try.f3 Rows.policyFiltersUptoRow.domain false) (((Rows.OpenSpec.upto Rows.policyFiltersSpec).at F).post enc Try.prog Try.f3 false true false false) := by
  refine returnsInHanded_of_cond (C := Try.checked) (s := Rows.OpenSpec.upto Rows.policyFiltersSpec) (k := Rows.uptoSmall) rfl own started (by kernel_rfl) Try.func3
    (OpenSpec.witness (enc := enc) (C := Try.checked) (s := Rows.OpenSpec.upto Rows.policyFiltersSpec) (k := Rows.uptoSmall) rfl false ⟨#[], #[.slice none 0 0, .slice none 0 0, .agg #[.int .i64 0, .bool false, .int .i64 0, .bool false, .bool false, .bool false, .bool false, .bool false, .bool false, .int .i64 0, .slice none 0 0, .slice none 0 0, .slice none 0 0, .slice none 0 0], .agg #[.int .i64 0, .bool false, .int .i64 0, .bool false, .bool false, .bool false, .bool false, .bool false, .bool false, .int .i64 0, .slice none 0 0, .slice none 0 0, .slice none 0 0, .slice none 0 0]], []⟩ 8 (by kernel_rfl) (by kernel_rfl) (by kernel_rfl)
      (x := ([.nil, .nil, .agg [.lit (.int .i64 0), .lit (.bool false), .lit (.int .i64 0), .lit (.bool false), .lit (.bool false), .lit (.bool false), .lit (.bool false), .lit (.bool false), .lit (.bool false), .lit (.int .i64 0), .nil, .nil, .nil, .nil], .agg [.lit (.int .i64 0), .lit (.bool false), .lit (.int .i64 0), .lit (.bool false), .lit (.bool false), .lit (.bool false), .lit (.bool false), .lit (.bool false), .lit (.bool false), .lit (.int .i64 0), .nil, .nil, .nil, .nil]], [], [])) (by kernel_rfl) rfl (by kernel_rfl)) ?_
  intro W base args ds gs before hval0 hW _ hk _
  have hval : ∀ (j : Nat) t v, Try.f3.params[j]? = some t → args[j]? = some v → Value.okWide Try.prog W .any base t v := hval0
  have hW' := hW
  obtain ⟨p, q, hA0, hV, rfl, hfz, hnd⟩ := hW
  have hA : DataW.TrodAll enc Try.prog W 0 (fun _ => true) true Try.f3.params.toList args.toList ds p := hA0
  rw [Try.params3] at hA hval
  obtain ⟨v0, vs0, d0, ds0, p0, q0, hargs, rfl, rfl, h0, r0⟩ := trodAll_cons hA
  obtain ⟨v1, vs1, d1, ds1, p1, q1, rfl, rfl, rfl, h1, r1⟩ := trodAll_cons r0
  obtain ⟨v2, vs2, d2, ds2, p2, q2, rfl, rfl, rfl, h2, r2⟩ := trodAll_cons r1
  obtain ⟨v3, vs3, d3, ds3, p3, q3, rfl, rfl, rfl, h3, r3⟩ := trodAll_cons r2
  obtain ⟨rfl, rfl, rfl⟩ := trodAll_nil r3
  obtain rfl : args = #[v0, v1, v2, v3] := by cases args; simp_all
  obtain ⟨rfl, rfl⟩ := trodVars_none hV
  have hbulk : Rows.uptoBulkAll ([d0, d1, d2, d3] : List (DataW H)) ≤ 1048576 := of_decide_eq_true (by simpa only [Rows.uptoSmall, List.append_nil] using hk)
  simp only [Rows.uptoBulkAll] at hbulk
  have k0 := h0; have k1 := h1; have k2 := h2; have k3 := h3
  have lt0 : ∀ x ∈ p0, x.block < W.heap.size := by obtain ⟨m, hm⟩ := k0; exact DataW.trod_lt m _ _ _ hm
  have lt1 : ∀ x ∈ p1, x.block < W.heap.size := by obtain ⟨m, hm⟩ := k1; exact DataW.trod_lt m _ _ _ hm
  have lt2 : ∀ x ∈ p2, x.block < W.heap.size := by obtain ⟨m, hm⟩ := k2; exact DataW.trod_lt m _ _ _ hm
  have lt3 : ∀ x ∈ p3, x.block < W.heap.size := by obtain ⟨m, hm⟩ := k3; exact DataW.trod_lt m _ _ _ hm
  obtain ⟨a0, n0, c0, rfl⟩ := okWide_slice Try.underlying22 (hval 0 22 v0 rfl rfl)
  have form0 := okWide_form Try.underlying22 (hval 0 22 (.slice a0 n0 c0) rfl rfl)
  obtain ⟨fu0, hf0⟩ := h0
  obtain ⟨A0, cap0, l0, e0, hn0, hrv0, hok0⟩ := open_rules (v := .slice a0 n0 c0) hf0
  have hb0 : l0.length ≤ 1048576 ∧ ∀ r ∈ l0, r.name.size ≤ 1099511627776 := by
    have h3 : Rows.uptoBulk d0 ≤ 1048576 := by omega
    have h5 : l0.length ≤ Rows.uptoBulk d0 := hn0
    exact ⟨by omega, fun r hr => by have := hok0 r hr; have h4 : r.name.size ≤ Rows.uptoBulk d0 := this; omega⟩
  obtain ⟨a1, n1, c1, rfl⟩ := okWide_slice Try.underlying23 (hval 1 23 v1 rfl rfl)
  have form1 := okWide_form Try.underlying23 (hval 1 23 (.slice a1 n1 c1) rfl rfl)
  obtain ⟨fu1, hf1⟩ := h1
  obtain ⟨A1, cap1, l1, e1, hn1, hrv1, hok1⟩ := open_strsR (v := .slice a1 n1 c1) hf1
  have hb1 : l1.length ≤ 1048576 ∧ ∀ r ∈ l1, r.size ≤ 1099511627776 := by
    have h3 : Rows.uptoBulk d1 ≤ 1048576 := by omega
    have h5 : l1.length ≤ Rows.uptoBulk d1 := hn1
    exact ⟨by omega, fun r hr => by have := hok1 r hr; have h4 : r.size ≤ Rows.uptoBulk d1 := this; omega⟩
  obtain ⟨M2, mq2, ma2, mu2, md2, rfl, hin2, fit2, hq2, ha2, hu2, hd2, wi2, wo2, wr2⟩ := open_msg (hval 2 27 v2 rfl rfl) h2 (by omega)
  obtain ⟨M3, mq3, ma3, mu3, md3, rfl, hin3, fit3, hq3, ha3, hu3, hd3, wi3, wo3, wr3⟩ := open_msg (hval 3 27 v3 rfl rfl) h3 (by omega)
  clear hA0 hval0
  have walk : Calls Try.prog 3 #[.slice a0 n0 c0, .slice a1 n1 c1, msgV M2.h mq2 ma2 mu2 md2, msgV M3.h mq3 ma3 mu3 md3] W fun e w' => e = .returned (.bool true) ∧ Below W.heap.size W w' := by
    rw [e0] at form0 ⊢
    rw [e1] at form1 ⊢
    exact filters_any l0 hb0.1 hb0.2 _ l1 hb1.1 hb1.2 _ M2 M3 _ _ _ _ _ _ _ _ fit2 fit3 (fun q hq => (hq2 q hq).2) W hrv0 hrv1 hin2 hin3
  refine walk.mono fun e W' ⟨he, bel⟩ => ?_
  subst he
  exact ⟨_, rfl, _, _, _, [], _, [], hW', trodAll_mk1 (shut_bool Try.underlying4 _), (trodAll_cons_mk (Below.trod laidOut (by kernel_rfl) (of_decide_eq_true (by kernel_rfl)) k0 bel lt0) (trodAll_cons_mk (Below.trod laidOut (by kernel_rfl) (of_decide_eq_true (by kernel_rfl)) k1 bel lt1) (trodAll_cons_mk (Below.trod laidOut (by kernel_rfl) (of_decide_eq_true (by kernel_rfl)) k2 bel lt2) (trodAll_cons_mk (Below.trod laidOut (by kernel_rfl) (of_decide_eq_true (by kernel_rfl)) k3 bel lt3) trodAll_mk0)))), rfl, bel.frame _, fun h => by cases h⟩

theorem policyFilters_upto : Rows.PolicyFiltersUptoSaid :=
  OpenClaim.holds_of_cond 3 Try.f3 rfl rfl rfl rfl rfl rfl rfl ⟨rfl, rfl, rfl, rfl, rfl⟩ rfl rfl rfl rfl rfl (by kernel_rfl) Try.func3 (by kernel_rfl)
    (of_decide_eq_true (by kernel_rfl)) (by unfold Func.isWrapper; first | (rw [if_pos (by decide +kernel)]; kernel_rfl) | (rw [if_neg (by decide +kernel)]; exact ⟨rfl, rfl⟩))
    (fun os started H enc _ F => filters_lifted os started H enc F)
#print axioms policyFilters_upto
end Go.Proofs.Ytnloommafgnanaa
