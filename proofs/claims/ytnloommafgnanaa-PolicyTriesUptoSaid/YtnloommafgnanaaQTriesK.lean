/-
  gazetteerlaw11.PolicyTries holds where what it reads is of bulk at most 1048576: what Order picks of a set is the set, in order.
-/
import Derived.Test.YtnloommafgnanaaRows
import Derived.Test.YtnloommafgnanaaQTries
import Derived.Test.YtnloommafgnanaaQOpenN
import Derived.Test.YtnloommafgnanaaQOpenU
namespace Go.Proofs.Ytnloommafgnanaa
open Go.RowKit Go.ChangeShapes Go.WideShapes Go.ChangeAt Go.Deep

set_option maxRecDepth 100000 in
set_option maxHeartbeats 1000000 in
theorem tries_lifted (os : Os) (started : os.Started) (H : Type) (enc : TypeId × Value → H) (F : Stop.Interp) :
    ReturnsInHanded {} Try.checked os 4 .any ((Rows.OpenSpec.upto Rows.policyTriesSpec).pre6 enc Try.prog Try.f4 Rows.policyTriesUptoRow.domain false) (((Rows.OpenSpec.upto Rows.policyTriesSpec).at F).post enc Try.prog Try.f4 false true false false) := by
  refine returnsInHanded_of_cond (C := Try.checked) (s := Rows.OpenSpec.upto Rows.policyTriesSpec) (k := Rows.uptoSmall) rfl own started (by kernel_rfl) Try.func4
    (OpenSpec.witness (enc := enc) (C := Try.checked) (s := Rows.OpenSpec.upto Rows.policyTriesSpec) (k := Rows.uptoSmall) rfl false ⟨#[], #[.slice none 0 0, .slice none 0 0], []⟩ 8 (by kernel_rfl) (by kernel_rfl) (by kernel_rfl)
      (x := ([.nil, .nil], [], [])) (by kernel_rfl) rfl (by kernel_rfl)) ?_
  intro W base args ds gs before hval0 hW _ hk _
  have hval : ∀ (j : Nat) t v, Try.f4.params[j]? = some t → args[j]? = some v → Value.okWide Try.prog W .any base t v := hval0
  have hW' := hW
  obtain ⟨p, q, hA0, hV, rfl, hfz, hnd⟩ := hW
  have hA : DataW.TrodAll enc Try.prog W 0 (fun _ => true) true Try.f4.params.toList args.toList ds p := hA0
  rw [Try.params4] at hA hval
  obtain ⟨v0, vs0, d0, ds0, p0, q0, hargs, rfl, rfl, h0, r0⟩ := trodAll_cons hA
  obtain ⟨v1, vs1, d1, ds1, p1, q1, rfl, rfl, rfl, h1, r1⟩ := trodAll_cons r0
  obtain ⟨rfl, rfl, rfl⟩ := trodAll_nil r1
  obtain rfl : args = #[v0, v1] := by cases args; simp_all
  obtain ⟨rfl, rfl⟩ := trodVars_none hV
  have hbulk : Rows.uptoBulkAll ([d0, d1] : List (DataW H)) ≤ 1048576 := of_decide_eq_true (by simpa only [Rows.uptoSmall, List.append_nil] using hk)
  simp only [Rows.uptoBulkAll] at hbulk
  have k0 := h0; have k1 := h1
  have lt0 : ∀ x ∈ p0, x.block < W.heap.size := by obtain ⟨m, hm⟩ := k0; exact DataW.trod_lt m _ _ _ hm
  have lt1 : ∀ x ∈ p1, x.block < W.heap.size := by obtain ⟨m, hm⟩ := k1; exact DataW.trod_lt m _ _ _ hm
  obtain ⟨a0, n0, c0, rfl⟩ := okWide_slice Try.underlying25 (hval 0 25 v0 rfl rfl)
  have form0 := okWide_form Try.underlying25 (hval 0 25 (.slice a0 n0 c0) rfl rfl)
  obtain ⟨fu0, hf0⟩ := h0
  obtain ⟨A0, cap0, l0, e0, hn0, hrv0, hok0⟩ := open_recs (v := .slice a0 n0 c0) hf0
  have hb0 : l0.length ≤ 1048576 ∧ ∀ r ∈ l0, r.owner.size ≤ 1099511627776 := by
    have hff := hf0
    rw [e0] at hff
    obtain ⟨h1, h2⟩ := recs_bulk hff hrv0
    have h3 : Rows.uptoBulk d0 ≤ 1048576 := by omega
    exact ⟨Nat.le_trans h1 h3, fun r hr => by have := h2 r hr; have h4 : r.owner.size ≤ Rows.uptoBulk d0 := this; omega⟩
  obtain ⟨a1, n1, c1, rfl⟩ := okWide_slice Try.underlying36 (hval 1 36 v1 rfl rfl)
  have form1 := okWide_form Try.underlying36 (hval 1 36 (.slice a1 n1 c1) rfl rfl)
  obtain ⟨fu1, hf1⟩ := h1
  obtain ⟨A1, cap1, l1, e1, hn1, hrv1, hok1⟩ := open_nums (v := .slice a1 n1 c1) hf1
  have hb1 : l1.length ≤ 1048576 := by have h3 : l1.length ≤ Rows.uptoBulk d1 := hn1; omega
  clear hA0 hval0
  have walk : Calls Try.prog 4 #[.slice a0 n0 c0, .slice a1 n1 c1] W fun e w' => e = .returned (.bool true) ∧ Below W.heap.size W w' := by
    rw [e0] at form0 ⊢
    rw [e1] at form1 ⊢
    exact tries_any l0 hb0.1 l1 hok1 (by omega) _ _ form0 W hrv0 hrv1
  refine walk.mono fun e W' ⟨he, bel⟩ => ?_
  subst he
  exact ⟨_, rfl, _, _, _, [], _, [], hW', trodAll_mk1 (shut_bool Try.underlying4 _), (trodAll_cons_mk (Below.trod laidOut (by kernel_rfl) (of_decide_eq_true (by kernel_rfl)) k0 bel lt0) (trodAll_cons_mk (Below.trod laidOut (by kernel_rfl) (of_decide_eq_true (by kernel_rfl)) k1 bel lt1) trodAll_mk0)), rfl, bel.frame _, fun h => by cases h⟩

theorem policyTries_upto : Rows.PolicyTriesUptoSaid :=
  OpenClaim.holds_of_cond 4 Try.f4 rfl rfl rfl rfl rfl rfl rfl ⟨rfl, rfl, rfl, rfl, rfl⟩ rfl rfl rfl rfl rfl (by kernel_rfl) Try.func4 (by kernel_rfl)
    (of_decide_eq_true (by kernel_rfl)) (by unfold Func.isWrapper; first | (rw [if_pos (by decide +kernel)]; kernel_rfl) | (rw [if_neg (by decide +kernel)]; exact ⟨rfl, rfl⟩))
    (fun os started H enc _ F => tries_lifted os started H enc F)
#print axioms policyTries_upto
end Go.Proofs.Ytnloommafgnanaa
