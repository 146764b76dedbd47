/-
  gazetteerlaw3.ZoneTurned holds for every input: what a zone says does not hang on the order of its list. No condition.
-/
import Derived.Test.YtpjoaghnciomeaaGreatOpenZ
import Derived.Test.YtpjoaghnciomeaaGreatOpenR
import Derived.Test.YtpjoaghnciomeaaGreatRows
namespace Go.Proofs.YtpjoaghnciomeaaGreat
open Go.RowKit Go.ChangeShapes Go.WideShapes Go.ChangeAt Go.Deep

set_option maxRecDepth 100000 in
theorem turned_lifted (os : Os) (started : os.Started) (H : Type) (enc : TypeId × Value → H) :
    ReturnsInHanded {} Tryz.checked os 10 .any (Rows.zoneTurnedSpec.pre6 enc Tryz.prog Tryz.f10 Rows.zoneTurnedRow.domain false) (Rows.zoneTurnedSpec.post enc Tryz.prog Tryz.f10 false true false false) := by
  refine returnsInHanded_of_change_sized (C := Tryz.checked) own started (by kernel_rfl) Tryz.func10
    (ChangeSpec.witness6 (enc := enc) (C := Tryz.checked) false ⟨#[], #[.string ByteArray.empty, .slice none 0 0, .slice none 0 0, .string ByteArray.empty, .int .i64 0], []⟩ 8 (by kernel_rfl) (by kernel_rfl) (by kernel_rfl) (by kernel_rfl)) ?_
  intro W base args ds gs before hval0 hW hcnd hwt _
  have hval : ∀ (j : Nat) t v, Tryz.f10.params[j]? = some t → args[j]? = some v → Value.okWide Tryz.prog W .any base t v := hval0
  have hW' := hW
  obtain ⟨p, q, hA0, hV, rfl, hfz, hnd⟩ := hW
  have hA : DataW.TrodAll enc Tryz.prog W 0 (fun _ => true) true Tryz.f10.params.toList args.toList ds p := hA0
  rw [Tryz.params10] at hA hval
  obtain ⟨v0, vs0, d0, ds0, p0, q0, hargs, rfl, rfl, h0, r0⟩ := trodAll_cons hA
  obtain ⟨v1, vs1, d1, ds1, p1, q1, rfl, rfl, rfl, h1, r1⟩ := trodAll_cons r0
  obtain ⟨v2, vs2, d2, ds2, p2, q2, rfl, rfl, rfl, h2, r2⟩ := trodAll_cons r1
  obtain ⟨v3, vs3, d3, ds3, p3, q3, rfl, rfl, rfl, h3, r3⟩ := trodAll_cons r2
  obtain ⟨v4, vs4, d4, ds4, p4, q4, rfl, rfl, rfl, h4, r4⟩ := trodAll_cons r3
  obtain ⟨rfl, rfl, rfl⟩ := trodAll_nil r4
  obtain rfl : args = #[v0, v1, v2, v3, v4] := by cases args; simp_all
  obtain ⟨rfl, rfl⟩ := trodVars_none hV
  have k0 := h0; have k1 := h1; have k2 := h2; have k3 := h3; have k4 := h4
  have lt0 : ∀ x ∈ p0, x.block < W.heap.size := by obtain ⟨m, hm⟩ := k0; exact DataW.trod_lt m _ _ _ hm
  have lt1 : ∀ x ∈ p1, x.block < W.heap.size := by obtain ⟨m, hm⟩ := k1; exact DataW.trod_lt m _ _ _ hm
  have lt2 : ∀ x ∈ p2, x.block < W.heap.size := by obtain ⟨m, hm⟩ := k2; exact DataW.trod_lt m _ _ _ hm
  have lt3 : ∀ x ∈ p3, x.block < W.heap.size := by obtain ⟨m, hm⟩ := k3; exact DataW.trod_lt m _ _ _ hm
  have lt4 : ∀ x ∈ p4, x.block < W.heap.size := by obtain ⟨m, hm⟩ := k4; exact DataW.trod_lt m _ _ _ hm
  obtain ⟨s0, rfl⟩ := okWide_string Tryz.underlying9 (hval 0 9 v0 rfl rfl)
  obtain ⟨a1, n1, c1, rfl⟩ := okWide_slice Tryz.underlying22 (hval 1 22 v1 rfl rfl)
  have form1 := okWide_form Tryz.underlying22 (hval 1 22 (.slice a1 n1 c1) rfl rfl)
  obtain ⟨fu1, hf1⟩ := h1
  obtain ⟨A1, cap1, l1, e1, hn1, hrv1, hok1⟩ := open_recs (v := .slice a1 n1 c1) hf1
  obtain ⟨a2, n2, c2, rfl⟩ := okWide_slice Tryz.underlying65 (hval 2 65 v2 rfl rfl)
  obtain ⟨fu2, hf2⟩ := h2
  obtain ⟨A2, cap2, l2, e2, hn2, hrv2, hok2⟩ := open_nums (v := .slice a2 n2 c2) hf2
  obtain ⟨s3, rfl⟩ := okWide_string Tryz.underlying9 (hval 3 9 v3 rfl rfl)
  obtain ⟨i4, rfl⟩ := okWide_int Tryz.underlying3 (hval 4 3 v4 rfl rfl)
  obtain ⟨fu4, hf4⟩ := h4
  obtain ⟨i4', e4, _, w4⟩ := DataW.trod_int Tryz.underlying3 hf4
  have e4' : i4 = i4' := by
    have h : [Value.int .i64 i4] = [Value.int .i64 i4'] := e4
    simpa using h
  subst e4'
  have hbig : l1.length * 56 ≤ 140737488355328 := by
    have hln : n1 = l1.length := by
      have h := e1
      simp only [Value.slice.injEq] at h
      exact h.2.1
    rcases recs_told hf1 with h | ⟨es, sp, hx, hl⟩
    · omega
    · have hb := sized_slice hwt (j := 1) (t := 22) (e := 53) (elems := es) (spare := sp) (by rw [Tryz.params10]; rfl) (by show some d1 = _; exact congrArg some hx) Tryz.underlying22
      have h56 : Tryz.checked.prog.bytesOf 53 = 56 := by kernel_rfl
      have hr := reachBytes_lt
      rw [h56, hl] at hb
      have h2 : n1 * 56 ≤ (n1 + sp.length) * 56 := Nat.mul_le_mul_right _ (Nat.le_add_right _ _)
      omega
  clear hA0 hval0
  have walk : Calls Tryz.prog 10 #[.string s0, .slice a1 n1 c1, .slice a2 n2 c2, .string s3, .int .i64 i4] W fun e w' => e = .returned (.bool true) ∧ Below W.heap.size W w' := by
    rw [e1] at form1 ⊢
    rw [e2]
    exact turned_any s0 l1 hok1 A1 cap1 form1 l2 hok2 A2 cap2 s3 i4 w4 W hbig hn2 hrv1 hrv2
  refine walk.mono fun e W' ⟨he, bel⟩ => ?_
  subst he
  exact ⟨_, rfl, _, _, _, [], _, [], hW', trodAll_mk1 (shut_bool Tryz.underlying4 _), (trodAll_cons_mk (Below.trod laidOut (by kernel_rfl) (of_decide_eq_true (by kernel_rfl)) k0 bel lt0) (trodAll_cons_mk (Below.trod laidOut (by kernel_rfl) (of_decide_eq_true (by kernel_rfl)) k1 bel lt1) (trodAll_cons_mk (Below.trod laidOut (by kernel_rfl) (of_decide_eq_true (by kernel_rfl)) k2 bel lt2) (trodAll_cons_mk (Below.trod laidOut (by kernel_rfl) (of_decide_eq_true (by kernel_rfl)) k3 bel lt3) (trodAll_cons_mk (Below.trod laidOut (by kernel_rfl) (of_decide_eq_true (by kernel_rfl)) k4 bel lt4) trodAll_mk0))))), rfl, bel.frame _, fun h => by cases h⟩

theorem zoneTurned_holds : Rows.ZoneTurnedSaid :=
  OpenClaim.holds_of_wide 10 Tryz.f10 rfl rfl rfl rfl rfl rfl rfl ⟨rfl, rfl, rfl, rfl, rfl⟩ rfl rfl rfl rfl rfl (by kernel_rfl) Tryz.func10 (by kernel_rfl)
    (of_decide_eq_true (by kernel_rfl)) (by unfold Func.isWrapper; first | (rw [if_pos (by decide +kernel)]; kernel_rfl) | (rw [if_neg (by decide +kernel)]; exact ⟨rfl, rfl⟩))
    (fun os started H enc _ => turned_lifted os started H enc)
#print axioms zoneTurned_holds
end Go.Proofs.YtpjoaghnciomeaaGreat
