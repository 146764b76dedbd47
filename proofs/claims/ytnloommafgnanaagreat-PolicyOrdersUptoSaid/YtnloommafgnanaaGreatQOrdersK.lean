/-
  gazetteerlaw11.PolicyOrders holds where what it reads is of bulk at most 1048576: in which order servers are tried, and which rewritings count, is the document's.
-/
import Derived.Test.YtnloommafgnanaaGreatRows
import Derived.Test.YtnloommafgnanaaGreatQOrders
import Derived.Test.YtnloommafgnanaaGreatQOpenN
namespace Go.Proofs.YtnloommafgnanaaGreat
open Go.RowKit Go.ChangeShapes Go.WideShapes Go.ChangeAt Go.Deep

set_option maxRecDepth 100000 in
set_option maxHeartbeats 1000000 in
theorem orders_lifted (os : Os) (started : os.Started) (H : Type) (enc : TypeId × Value → H) (F : Stop.Interp) :
    ReturnsInHanded {} Tryz.checked os 3 .any ((Rows.OpenSpec.upto Rows.policyOrdersSpec).pre6 enc Tryz.prog Tryz.f3 Rows.policyOrdersUptoRow.domain false) (((Rows.OpenSpec.upto Rows.policyOrdersSpec).at F).post enc Tryz.prog Tryz.f3 false true false false) := by
  refine returnsInHanded_of_cond (C := Tryz.checked) (s := Rows.OpenSpec.upto Rows.policyOrdersSpec) (k := Rows.uptoSmall) rfl own started (by kernel_rfl) Tryz.func3
    (OpenSpec.witness (enc := enc) (C := Tryz.checked) (s := Rows.OpenSpec.upto Rows.policyOrdersSpec) (k := Rows.uptoSmall) rfl false ⟨#[], #[.slice none 0 0, .slice none 0 0, .string ByteArray.empty], []⟩ 8 (by kernel_rfl) (by kernel_rfl) (by kernel_rfl)
      (x := ([.nil, .nil, .lit (.string [])], [], [])) (by kernel_rfl) rfl (by kernel_rfl)) ?_
  intro W base args ds gs before hval0 hW _ hk _
  have hval : ∀ (j : Nat) t v, Tryz.f3.params[j]? = some t → args[j]? = some v → Value.okWide Tryz.prog W .any base t v := hval0
  have hW' := hW
  obtain ⟨p, q, hA0, hV, rfl, hfz, hnd⟩ := hW
  have hA : DataW.TrodAll enc Tryz.prog W 0 (fun _ => true) true Tryz.f3.params.toList args.toList ds p := hA0
  rw [Tryz.params3] at hA hval
  obtain ⟨v0, vs0, d0, ds0, p0, q0, hargs, rfl, rfl, h0, r0⟩ := trodAll_cons hA
  obtain ⟨v1, vs1, d1, ds1, p1, q1, rfl, rfl, rfl, h1, r1⟩ := trodAll_cons r0
  obtain ⟨v2, vs2, d2, ds2, p2, q2, rfl, rfl, rfl, h2, r2⟩ := trodAll_cons r1
  obtain ⟨rfl, rfl, rfl⟩ := trodAll_nil r2
  obtain rfl : args = #[v0, v1, v2] := by cases args; simp_all
  obtain ⟨rfl, rfl⟩ := trodVars_none hV
  have hbulk : Rows.uptoBulkAll ([d0, d1, d2] : List (DataW H)) ≤ 1048576 := of_decide_eq_true (by simpa only [Rows.uptoSmall, List.append_nil] using hk)
  simp only [Rows.uptoBulkAll] at hbulk
  have k0 := h0; have k1 := h1; have k2 := h2
  have lt0 : ∀ x ∈ p0, x.block < W.heap.size := by obtain ⟨m, hm⟩ := k0; exact DataW.trod_lt m _ _ _ hm
  have lt1 : ∀ x ∈ p1, x.block < W.heap.size := by obtain ⟨m, hm⟩ := k1; exact DataW.trod_lt m _ _ _ hm
  have lt2 : ∀ x ∈ p2, x.block < W.heap.size := by obtain ⟨m, hm⟩ := k2; exact DataW.trod_lt m _ _ _ hm
  obtain ⟨a0, n0, c0, rfl⟩ := okWide_slice Tryz.underlying22 (hval 0 22 v0 rfl rfl)
  have form0 := okWide_form Tryz.underlying22 (hval 0 22 (.slice a0 n0 c0) rfl rfl)
  obtain ⟨fu0, hf0⟩ := h0
  obtain ⟨A0, cap0, l0, e0, hn0, hrv0, hok0⟩ := open_recs (v := .slice a0 n0 c0) hf0
  have hb0 : l0.length ≤ 1048576 ∧ ∀ r ∈ l0, r.owner.size ≤ 1099511627776 := by
    have hff := hf0
    rw [e0] at hff
    obtain ⟨h1, h2⟩ := recs_bulk hff hrv0
    have h3 : Rows.uptoBulk d0 ≤ 1048576 := by omega
    exact ⟨Nat.le_trans h1 h3, fun r hr => by have := h2 r hr; have h4 : r.owner.size ≤ Rows.uptoBulk d0 := this; omega⟩
  obtain ⟨a1, n1, c1, rfl⟩ := okWide_slice Tryz.underlying23 (hval 1 23 v1 rfl rfl)
  have form1 := okWide_form Tryz.underlying23 (hval 1 23 (.slice a1 n1 c1) rfl rfl)
  obtain ⟨fu1, hf1⟩ := h1
  obtain ⟨A1, cap1, l1, e1, hn1, hrv1, hok1⟩ := open_nums (v := .slice a1 n1 c1) hf1
  have hb1 : l1.length ≤ 1048576 := by have h3 : l1.length ≤ Rows.uptoBulk d1 := hn1; omega
  obtain ⟨s2, rfl⟩ := okWide_string Tryz.underlying9 (hval 2 9 v2 rfl rfl)
  obtain ⟨fu2, hf2⟩ := h2
  obtain ⟨s2', e2, z2, _⟩ := DataW.trod_string Tryz.underlying9 hf2
  have q2' : s2 = s2' := by
    have h : [Value.string s2] = [Value.string s2'] := e2
    simpa using h
  subst q2'
  have b2 : s2.size ≤ 1099511627776 := by
    have h1 := bulks.string_le (H := H) s2
    have h2 : d2 = .lit (.string s2.data.toList) := congrArg Prod.fst z2
    rw [← h2] at h1
    omega
  clear hA0 hval0
  have walk : Calls Tryz.prog 3 #[.slice a0 n0 c0, .slice a1 n1 c1, .string s2] W fun e w' => e = .returned (.bool true) ∧ Below W.heap.size W w' := by
    rw [e0] at form0 ⊢
    rw [e1] at form1 ⊢
    exact orders_any l0 hb0.1 hb0.2 l1 hok1 hb1 s2 b2 _ _ form0 form1 W hrv0 hrv1
  refine walk.mono fun e W' ⟨he, bel⟩ => ?_
  subst he
  exact ⟨_, rfl, _, _, _, [], _, [], hW', trodAll_mk1 (shut_bool Tryz.underlying4 _), (trodAll_cons_mk (Below.trod laidOut (by kernel_rfl) (of_decide_eq_true (by kernel_rfl)) k0 bel lt0) (trodAll_cons_mk (Below.trod laidOut (by kernel_rfl) (of_decide_eq_true (by kernel_rfl)) k1 bel lt1) (trodAll_cons_mk (Below.trod laidOut (by kernel_rfl) (of_decide_eq_true (by kernel_rfl)) k2 bel lt2) trodAll_mk0))), rfl, bel.frame _, fun h => by cases h⟩

theorem policyOrders_upto : Rows.PolicyOrdersUptoSaid :=
  OpenClaim.holds_of_cond 3 Tryz.f3 rfl rfl rfl rfl rfl rfl rfl ⟨rfl, rfl, rfl, rfl, rfl⟩ rfl rfl rfl rfl rfl (by kernel_rfl) Tryz.func3 (by kernel_rfl)
    (of_decide_eq_true (by kernel_rfl)) (by unfold Func.isWrapper; first | (rw [if_pos (by decide +kernel)]; kernel_rfl) | (rw [if_neg (by decide +kernel)]; exact ⟨rfl, rfl⟩))
    (fun os started H enc _ F => orders_lifted os started H enc F)
#print axioms policyOrders_upto
end Go.Proofs.YtnloommafgnanaaGreat
