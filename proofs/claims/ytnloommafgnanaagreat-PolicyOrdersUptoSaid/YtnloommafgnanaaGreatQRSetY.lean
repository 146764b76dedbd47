/-
  The reference's sets: the walk of IsSet.
-/
import Derived.Test.YtnloommafgnanaaGreatQRSetW
namespace Go.Proofs.YtnloommafgnanaaGreat
open Go.RowKit Go.Shelf Go.Proofs.YtnloommafgnanaaGreat.nm Go.Proofs.YtnloommafgnanaaGreat.od

theorem rs.not_is {l : List Rec} {k : Nat} (hk : k < l.length) (h : rs.okB l l[k] = false) : ¬ rs.IsP l := fun hp => by
  have := (hp.2 k hk).1
  rw [h] at this
  cases this
def rs.IsPost (l : List Rec) (w : World) (e : Ending) (w' : World) : Prop := ∃ b, e = .returned (.bool b) ∧ (b = true ↔ rs.IsP l) ∧ Below w.heap.size w w'
theorem rs.is_no {l : List Rec} {w w' : World} {e : Ending} (h : ¬ rs.IsP l) (he : e = .returned (.bool false)) (hb : Below w.heap.size w w') : rs.IsPost l w e w' := ⟨false, he, ⟨nofun, fun h' => absurd h' h⟩, hb⟩
theorem rs.is_yes {l : List Rec} {w w' : World} {e : Ending} (h : rs.IsP l) (he : e = .returned (.bool true)) (hb : Below w.heap.size w w') : rs.IsPost l w e w' := ⟨true, he, ⟨fun _ => h, fun _ => rfl⟩, hb⟩
set_option maxRecDepth 100000 in
set_option maxHeartbeats 8000000 in
theorem risset_any (l : List Rec) (hl : l.length ≤ 1000000000000) (hn : ∀ x ∈ l, x.owner.size ≤ 1099511627776) (v : Value) (w : World) (hv : RecsAt w v l) :
    Calls Tryz.prog 46 #[v] w fun e w' => rs.IsPost l w e w' := by
  obtain ⟨a, cap, rfl, -⟩ := id hv
  have HV := Lib.hid hv; have HN := Lib.hid hn
  clear hv hn
  go_enter Tryz.func46, Tryz.ntmps46
  go_wp2_with fail
  go_loopw [8] (fun kv wr => ∃ k : Nat, k ≤ l.length ∧ kv = .int .i64 (k : Int) ∧ Hid (Below w.heap.size w wr ∧ ∀ j (hj : j < l.length), j < k → rs.okB l l[j] = true ∧ ∀ i (hi : i < j), dt.foldD (l[j]).typ (l[j]).data ≠ dt.foldD (l[j]).typ (l[i]'(by omega)).data)) (fun kv _ => l.length - (intOf kv).toNat)
  case atStart => exact ⟨0, Nat.zero_le _, rfl, Lib.hid ⟨Below.refl _ _, fun j _ hj => absurd hj (Nat.not_lt_zero _)⟩⟩
  case round =>
    obtain ⟨k, hk, rfl, HR⟩ := hrel
    obtain ⟨wo, hwo⟩ : ∃ X : World, X = wr := ⟨_, rfl⟩
    subst hwo
    by_cases hlt : k < l.length
    · obtain ⟨b, off, cp, hv, -⟩ := recs_some (HV.out.below HR.out.1) hlt
      simp only [Value.slice.injEq, true_and] at hv
      obtain ⟨rfl, rfl⟩ := hv
      obtain ⟨hb, c0, c1, c2, c3, c4⟩ := cells_at (HV.out.below HR.out.1) hlt
      obtain ⟨-, d0, d1, -⟩ := cells_at (HV.out.below HR.out.1) (show 0 < l.length by omega)
      simp only [Nat.zero_mul, Nat.add_zero] at d0 d1
      obtain ⟨x, hx⟩ : ∃ x, x = l[k] := ⟨_, rfl⟩
      obtain ⟨o, ho⟩ : ∃ o, o = po.headO l := ⟨_, rfl⟩
      obtain ⟨ht, hht⟩ : ∃ ht, ht = rs.headT l := ⟨_, rfl⟩
      have ho2 : (l[0]'(by omega)).owner = o := by
        rw [ho]; unfold po.headO
        cases l with
        | nil => simp at hlt
        | cons y r => rfl
      have ht2 : (l[0]'(by omega)).typ = ht := by
        rw [hht]; unfold rs.headT
        cases l with
        | nil => simp at hlt
        | cons y r => rfl
      have hxo : x.owner.size ≤ 1099511627776 := HN.out x (by rw [hx]; exact List.getElem_mem _)
      have hoo : o.size ≤ 1099511627776 := by rw [← ho2]; exact HN.out _ (List.getElem_mem _)
      rw [← hx] at c0 c1 c2 c3 c4
      rw [ho2] at d0
      rw [ht2] at d1
      obtain ⟨w1, hw1⟩ : ∃ X, X = wo.alloc (.cells (recC x).toArray 42) := ⟨_, rfl⟩
      obtain ⟨hB1, hs1, hx1⟩ := rec_new wo w1 x hw1
      have hd0 : w1.cell? ⟨b, off, none⟩ = some (.string o) := (hB1.cell (p := ⟨b, off, none⟩) hb).trans d0
      have hd1 : w1.cell? ⟨b, off + 1, none⟩ = some (.int .i64 ht) := (hB1.cell (p := ⟨b, off + 1, none⟩) hb).trans d1
      have HBR := Lib.hid (HR.out.1.trans (hB1.mono HR.out.1.size))
      have HZ := Lib.hid HBR.out.size
      have CZ : Hid (∀ g, Calls Tryz.prog 59 #[.agg #[.string x.owner, .int .i64 x.typ, .int .i64 x.cls, .int .i64 x.ttl, .string x.data]] (gw w1 g) fun e w'' => e = .returned (.bool (rs.zonalB x)) ∧ ∃ g', w'' = gw w1 g') := Lib.hid fun g => calls_gw (rzonal_any x hxo _)
      have CE : Hid (∀ g, Calls Tryz.prog 60 #[.string x.owner, .string o] (gw w1 g) fun e w'' => e = .returned (.bool (equalB x.owner o)) ∧ ∃ g', w'' = gw w1 g') := Lib.hid fun g => calls_gw (requal_any x.owner o hxo hoo _)
      have hki : (k : Int) < (l.length : Int) := by omega
      have h0i : (0 : Int) < (l.length : Int) := by omega
      have h0n : 0 < l.length := by omega
      have HX := Lib.hid hx; have HH := Lib.hid ho; have HT := Lib.hid hht; have HW1 := Lib.hid hw1; have HS1 := Lib.hid hs1
      clear ho ho2 hht ht2 hx hw1 hB1 hs1 d0 d1 hb
      go_upto_region 4 with fail
      rw [← HW1.out]
      clear c0 c1 c2 c3 c4
      obtain ⟨x0, x1, x2, x3, x4⟩ := hx1
      simp only [Nat.zero_add] at x0 x1 x2 x3 x4
      obtain ⟨xb, hxb⟩ : ∃ xb, xb = wo.heap.size := ⟨_, rfl⟩
      rw [← hxb] at x0 x1 x2 x3 x4 ⊢
      have g0 := gw_cell x0; have g1 := gw_cell x1; have g2 := gw_cell x2; have g3 := gw_cell x3; have g4 := gw_cell x4
      have gh := gw_cell hd0; have gt := gw_cell hd1
      have HXB := Lib.hid hxb
      have HXA := Lib.hid (show RecAt w1 xb 0 x from ⟨x0, by rw [Nat.zero_add]; exact x1, by rw [Nat.zero_add]; exact x2, by rw [Nat.zero_add]; exact x3, by rw [Nat.zero_add]; exact x4⟩)
      have HXL := Lib.hid (show xb < w1.heap.size by have := HS1.out; have := HXB.out; omega)
      clear x0 x1 x2 x3 x4 hd0 hd1 hxb
      by_cases k1 : rs.zonalB x = true
      · rw [k1] at CZ
        by_cases k2 : x.typ = 46
        · have f2 : (x.typ == 46) = true := by rw [beq_iff_eq]; exact k2
          have HE := Lib.hid (rs.not_is hlt (by rw [← HX.out]; unfold rs.okB; rw [decide_eq_false (show ¬ x.typ ≠ 46 from fun h => h k2)]; simp))
          clear k2
          refine wp_region_gw (by kernel_rfl) (by kernel_rfl) ?_
          repeat (with_reducible refine wpQuiet_step (fun K hK => ?_); go_simp; (try simp only [undef]); first | (with_reducible refine hK _ ?_; clear hK K) | (apply Exists.intro; refine ⟨fun _ => ?_, hK _ ?_⟩; (first | (go_at_call 59; with_reducible exact CZ.out _) | (go_at_call 60; with_reducible exact CE.out _)); clear hK K) | (with_reducible refine ⟨fun _ h => (by cases h), ?_⟩; with_reducible refine hK _ ?_; clear hK K))
          refine wpQuiet_nil ?_
          (try simp only [show Value.tuple #[] = undef from rfl])
          intro W hW
          have hBW : Below w1.heap.size w1 W := by obtain ⟨g, rfl⟩ := hW; exact gw_below _ g
          clear hW
          have HBW := Lib.hid (HBR.out.trans (hBW.mono HZ.out))
          clear hBW
          go_wp2_with fail
          go_ret
          exact rs.is_no HE.out rfl HBW.out
        · have f2 : (x.typ == 46) = false := by rw [beq_eq_false_iff_ne]; exact k2
          by_cases k3 : x.typ = ht
          · have f3 : (x.typ != ht) = false := by rw [bne_eq_false_iff_eq]; exact k3
            by_cases k4 : equalB x.owner o = true
            · rw [k4] at CE
              have HOK := Lib.hid (show rs.okB l x = true by unfold rs.okB; rw [← HH.out, ← HT.out]; rw [k1, decide_eq_true k2, decide_eq_true k3, k4]; rfl)
              have K3 := Lib.hid k3
              clear k3 k2
              refine wp_region_gw (by kernel_rfl) (by kernel_rfl) ?_
              repeat (with_reducible refine wpQuiet_step (fun K hK => ?_); go_simp; (try simp only [undef]); first | (with_reducible refine hK _ ?_; clear hK K) | (apply Exists.intro; refine ⟨fun _ => ?_, hK _ ?_⟩; (first | (go_at_call 59; with_reducible exact CZ.out _) | (go_at_call 60; with_reducible exact CE.out _)); clear hK K) | (with_reducible refine ⟨fun _ h => (by cases h), ?_⟩; with_reducible refine hK _ ?_; clear hK K))
              refine wpQuiet_nil ?_
              (try simp only [show Value.tuple #[] = undef from rfl])
              intro W hW
              have hBW : Below w1.heap.size w1 W := by obtain ⟨g, rfl⟩ := hW; exact gw_below _ g
              clear hW
              clear g0 g1 g2 g3 g4 gh gt f2 f3
              have HBW := Lib.hid (HBR.out.trans (hBW.mono HZ.out))
              have HXW := Lib.hid (recAt_below HXA.out hBW HXL.out)
              have HXWL := Lib.hid (Nat.lt_of_lt_of_le HXL.out hBW.size)
              clear hBW
              go_wp2_with fail
              go_loopw [5] (fun jv wr => ∃ j : Nat, j ≤ k ∧ jv = .int .i64 (j : Int) ∧ Hid (Below W.heap.size W wr ∧ ∀ i (hi : i < j) (hik : i < l.length), dt.foldD x.typ x.data ≠ dt.foldD x.typ (l[i]).data)) (fun jv _ => k - (intOf jv).toNat)
              case atStart => exact ⟨0, Nat.zero_le _, rfl, Lib.hid ⟨Below.refl _ _, fun i hi => absurd hi (Nat.not_lt_zero _)⟩⟩
              case round =>
                obtain ⟨j, hj, rfl, HJ⟩ := hrel
                obtain ⟨w5, hw5⟩ : ∃ X : World, X = wr := ⟨_, rfl⟩
                subst hw5
                have HB5 := Lib.hid (HBW.out.trans (HJ.out.1.mono HBW.out.size))
                by_cases hjk : j < k
                · have hji : (j : Int) < (k : Int) := by omega
                  have hjl : j < l.length := by omega
                  have hjli : (j : Int) < (l.length : Int) := by omega
                  obtain ⟨_, y0, y1, y2, y3, y4⟩ := cells_at (HV.out.below HB5.out) hjl
                  obtain ⟨x0, x1, x2, x3, x4⟩ := recAt_below HXW.out HJ.out.1 HXWL.out
                  simp only [Nat.zero_add] at x1 x4
                  obtain ⟨y, hy⟩ : ∃ y, y = l[j] := ⟨_, rfl⟩
                  rw [← hy] at y4
                  have g1 := gw_cell x1; have g4 := gw_cell x4; have gy := gw_cell y4
                  have CP : Hid (∀ g, Calls Tryz.prog 61 #[.int .i64 x.typ, .string x.data] (gw w5 g) fun e w'' => e = .returned (.string (dt.foldD x.typ x.data)) ∧ ∃ g', w'' = gw w5 g') := Lib.hid fun g => calls_gw (rfoldd_any _ _ _)
                  have CQ : Hid (∀ g, Calls Tryz.prog 61 #[.int .i64 x.typ, .string y.data] (gw w5 g) fun e w'' => e = .returned (.string (dt.foldD x.typ y.data)) ∧ ∃ g', w'' = gw w5 g') := Lib.hid fun g => calls_gw (rfoldd_any _ _ _)
                  have HY := Lib.hid hy
                  clear hy y0 y1 y2 y3 y4 x0 x1 x2 x3 x4
                  by_cases hf : dt.foldD x.typ x.data = dt.foldD x.typ y.data
                  · have f1 : ((dt.foldD x.typ x.data).toList == (dt.foldD x.typ y.data).toList) = true := str_eq.2 hf
                    have HE := Lib.hid (show ¬ rs.IsP l from fun hp => (hp.2 k hlt).2 j hjk (by rw [← HX.out, ← HY.out]; exact hf))
                    clear hf
                    go_upto_region 9 with fail
                    refine wp_region_gw (by kernel_rfl) (by kernel_rfl) ?_
                    repeat (with_reducible refine wpQuiet_step (fun K hK => ?_); go_simp; (try simp only [undef]); first | (with_reducible refine hK _ ?_; clear hK K) | (apply Exists.intro; refine ⟨fun _ => ?_, hK _ ?_⟩; (first | (go_at_call 61; (first | with_reducible exact CP.out _ | with_reducible exact CQ.out _))); clear hK K) | (with_reducible refine ⟨fun _ h => (by cases h), ?_⟩; with_reducible refine hK _ ?_; clear hK K))
                    refine wpQuiet_nil ?_
                    (try simp only [show Value.tuple #[] = undef from rfl])
                    intro V hV
                    have hBV : Below w5.heap.size w5 V := by obtain ⟨g, rfl⟩ := hV; exact gw_below _ g
                    clear hV
                    have HBV := Lib.hid (HB5.out.trans (hBV.mono HB5.out.size))
                    clear hBV
                    go_wp2_with fail
                    go_ret
                    exact rs.is_no HE.out rfl HBV.out
                  · have f1 : ((dt.foldD x.typ x.data).toList == (dt.foldD x.typ y.data).toList) = false := str_ne hf
                    have HF := Lib.hid hf
                    clear hf
                    go_upto_region 9 with fail
                    refine wp_region_gw (by kernel_rfl) (by kernel_rfl) ?_
                    repeat (with_reducible refine wpQuiet_step (fun K hK => ?_); go_simp; (try simp only [undef]); first | (with_reducible refine hK _ ?_; clear hK K) | (apply Exists.intro; refine ⟨fun _ => ?_, hK _ ?_⟩; (first | (go_at_call 61; (first | with_reducible exact CP.out _ | with_reducible exact CQ.out _))); clear hK K) | (with_reducible refine ⟨fun _ h => (by cases h), ?_⟩; with_reducible refine hK _ ?_; clear hK K))
                    refine wpQuiet_nil ?_
                    (try simp only [show Value.tuple #[] = undef from rfl])
                    intro V hV
                    have hBV : Below w5.heap.size w5 V := by obtain ⟨g, rfl⟩ := hV; exact gw_below _ g
                    clear hV
                    have HBV := Lib.hid (HJ.out.1.trans (hBV.mono HJ.out.1.size))
                    clear hBV g1 g4 gy
                    go_wp2_with fail
                    go_roundw
                    case rel =>
                      refine ⟨j + 1, by omega, by go_num, Lib.hid ⟨HBV.out, fun i hi hik => ?_⟩⟩
                      rcases Nat.lt_or_ge i j with h | h
                      · exact HJ.out.2 i h hik
                      · obtain rfl : i = j := by omega
                        rw [← HY.out]; exact HF.out
                    case measure => simp [intOf]; omega
                · obtain rfl : k = j := by omega
                  clear hjk
                  go_wp2_with fail
                  go_roundw
                  case rel =>
                    refine ⟨k + 1, by omega, by go_num, Lib.hid ⟨HB5.out, fun j hj hjk => ?_⟩⟩
                    rcases Nat.lt_or_ge j k with h | h
                    · exact HR.out.2 j hj h
                    · obtain rfl : j = k := by omega
                      rw [← HX.out]
                      exact ⟨HOK.out, fun i hi => HJ.out.2 i hi (by omega)⟩
                  case measure => simp [intOf]; omega
            · have k4' : equalB x.owner o = false := by simpa using k4
              rw [k4'] at CE
              have HE := Lib.hid (rs.not_is hlt (by rw [← HX.out]; unfold rs.okB; rw [← HH.out, k4', Bool.and_false]))
              clear k3
              refine wp_region_gw (by kernel_rfl) (by kernel_rfl) ?_
              repeat (with_reducible refine wpQuiet_step (fun K hK => ?_); go_simp; (try simp only [undef]); first | (with_reducible refine hK _ ?_; clear hK K) | (apply Exists.intro; refine ⟨fun _ => ?_, hK _ ?_⟩; (first | (go_at_call 59; with_reducible exact CZ.out _) | (go_at_call 60; with_reducible exact CE.out _)); clear hK K) | (with_reducible refine ⟨fun _ h => (by cases h), ?_⟩; with_reducible refine hK _ ?_; clear hK K))
              refine wpQuiet_nil ?_
              (try simp only [show Value.tuple #[] = undef from rfl])
              intro W hW
              have hBW : Below w1.heap.size w1 W := by obtain ⟨g, rfl⟩ := hW; exact gw_below _ g
              clear hW
              have HBW := Lib.hid (HBR.out.trans (hBW.mono HZ.out))
              clear hBW
              go_wp2_with fail
              go_ret
              exact rs.is_no HE.out rfl HBW.out
          · have f3 : (x.typ != ht) = true := by rw [bne_iff_ne]; exact k3
            have HE := Lib.hid (rs.not_is hlt (by rw [← HX.out]; unfold rs.okB; rw [← HT.out, decide_eq_false k3]; simp))
            refine wp_region_gw (by kernel_rfl) (by kernel_rfl) ?_
            repeat (with_reducible refine wpQuiet_step (fun K hK => ?_); go_simp; (try simp only [undef]); first | (with_reducible refine hK _ ?_; clear hK K) | (apply Exists.intro; refine ⟨fun _ => ?_, hK _ ?_⟩; (first | (go_at_call 59; with_reducible exact CZ.out _) | (go_at_call 60; with_reducible exact CE.out _)); clear hK K) | (with_reducible refine ⟨fun _ h => (by cases h), ?_⟩; with_reducible refine hK _ ?_; clear hK K))
            refine wpQuiet_nil ?_
            (try simp only [show Value.tuple #[] = undef from rfl])
            intro W hW
            have hBW : Below w1.heap.size w1 W := by obtain ⟨g, rfl⟩ := hW; exact gw_below _ g
            clear hW
            have HBW := Lib.hid (HBR.out.trans (hBW.mono HZ.out))
            clear hBW
            go_wp2_with fail
            go_ret
            exact rs.is_no HE.out rfl HBW.out
      · have k1' : rs.zonalB x = false := by simpa using k1
        rw [k1'] at CZ
        have HE := Lib.hid (rs.not_is hlt (by rw [← HX.out]; unfold rs.okB; simp [k1']))
        refine wp_region_gw (by kernel_rfl) (by kernel_rfl) ?_
        repeat (with_reducible refine wpQuiet_step (fun K hK => ?_); go_simp; (try simp only [undef]); first | (with_reducible refine hK _ ?_; clear hK K) | (apply Exists.intro; refine ⟨fun _ => ?_, hK _ ?_⟩; (first | (go_at_call 59; with_reducible exact CZ.out _) | (go_at_call 60; with_reducible exact CE.out _)); clear hK K) | (with_reducible refine ⟨fun _ h => (by cases h), ?_⟩; with_reducible refine hK _ ?_; clear hK K))
        refine wpQuiet_nil ?_
        (try simp only [show Value.tuple #[] = undef from rfl])
        intro W hW
        have hBW : Below w1.heap.size w1 W := by obtain ⟨g, rfl⟩ := hW; exact gw_below _ g
        clear hW
        have HBW := Lib.hid (HBR.out.trans (hBW.mono HZ.out))
        clear hBW
        go_wp2_with fail
        go_ret
        exact rs.is_no HE.out rfl HBW.out
    · obtain rfl : l.length = k := by omega
      have HB := Lib.hid HR.out.1
      by_cases h0 : 0 < l.length
      · have hP : rs.IsP l := ⟨h0, fun j hj => HR.out.2 j hj hj⟩
        have h0i : (0 : Int) < (l.length : Int) := by omega
        have f0 : decide ((0 : Int) < (l.length : Int)) = true := decide_eq_true h0i
        have HP := Lib.hid hP
        clear hP
        go_wp2_with fail
        go_ret
        first | exact rs.is_yes HP.out rfl HB.out | exact rs.is_yes HP.out (ret_b f0) HB.out | exact rs.is_yes HP.out (ret_b f0.symm) HB.out
      · have h0i : ¬ (0 : Int) < (l.length : Int) := by omega
        have f0 : decide ((0 : Int) < (l.length : Int)) = false := decide_eq_false h0i
        have HP := Lib.hid (show ¬ rs.IsP l from fun h => h0 h.1)
        clear h0
        go_wp2_with fail
        go_ret
        first | exact rs.is_no HP.out rfl HB.out | exact rs.is_no HP.out (ret_b (decide_eq_false (by omega))) HB.out | (trace_state; exact rs.is_no HP.out (ret_b f0) HB.out)
end Go.Proofs.YtnloommafgnanaaGreat

/-
  The reference's sets of a type.
-/
namespace Go.Proofs.YtnloommafgnanaaGreat
open Go.RowKit Go.Shelf Go.Proofs.YtnloommafgnanaaGreat.nm Go.Proofs.YtnloommafgnanaaGreat.od

set_option maxRecDepth 100000 in
set_option maxHeartbeats 4000000 in
theorem rsetT_any (t : Int) (h46 : t ≠ 46) (l : List Rec) (hl : l.length ≤ 1000000000000) (hn : ∀ x ∈ l, x.owner.size ≤ 1099511627776) (v : Value) (w : World) (hv : RecsAt w v l) :
    Calls Tryz.prog 27 #[v, .int .i64 t] w fun e w' => e = .returned (.bool (po.setB t l)) ∧ Below w.heap.size w w' := by
  have hiff := rs.set_iff (l := l) h46
  have HS := Lib.hid (risset_any l hl hn v w hv)
  obtain ⟨a, cap, rfl, -⟩ := id hv
  have HV := Lib.hid hv; have HIFF := Lib.hid hiff
  obtain ⟨sb, hsb⟩ : ∃ sb, sb = po.setB t l := ⟨_, rfl⟩
  have HSB := Lib.hid hsb
  rw [← hsb]
  clear hv hn hiff hsb h46
  go_enter Tryz.func27, Tryz.ntmps27
  go_wp2_with fail
  refine HS.out.mono ?_
  rintro e w1 ⟨b, rfl, hb, hB1⟩
  have HB1 := Lib.hid hB1
  cases b with
  | false =>
    have HE := Lib.hid (show sb = false from by
      cases sb with
      | false => rfl
      | true => exact absurd (hb.2 (HIFF.out.2 HSB.out.symm).1) (by simp))
    clear hb hB1
    go_wp2_with fail
    go_ret
    exact ⟨ret_b HE.out.symm, HB1.out⟩
  | true =>
    have hp := hb.1 rfl
    have h0 := hp.1
    obtain ⟨bb, off, cp, hvv, -⟩ := recs_some (HV.out.below HB1.out) h0
    simp only [Value.slice.injEq, true_and] at hvv
    obtain ⟨rfl, rfl⟩ := hvv
    obtain ⟨_, c0, c1, -⟩ := cells_at (HV.out.below HB1.out) h0
    simp only [Nat.zero_mul, Nat.add_zero] at c0 c1
    obtain ⟨ht, hht⟩ : ∃ ht, ht = rs.headT l := ⟨_, rfl⟩
    have ht2 : (l[0]).typ = ht := by
      rw [hht]; unfold rs.headT
      cases l with
      | nil => simp at h0
      | cons y r => rfl
    rw [ht2] at c1
    have h0i : (0 : Int) < (l.length : Int) := by omega
    have HP := Lib.hid hp; have HT := Lib.hid hht
    by_cases k : ht = t
    · have f1 : (ht == t) = true := by rw [beq_iff_eq]; exact k
      have HE := Lib.hid (show sb = true from by rw [HSB.out]; exact HIFF.out.1 ⟨HP.out, HT.out.symm.trans k⟩)
      clear hb hB1 hp hht ht2 k c0
      go_wp2_with fail
      go_ret
      exact ⟨ret_b HE.out.symm, HB1.out⟩
    · have f1 : (ht == t) = false := by rw [beq_eq_false_iff_ne]; exact k
      have HE := Lib.hid (show sb = false from by
        cases sb with
        | false => rfl
        | true => exact absurd (HT.out.trans (HIFF.out.2 HSB.out.symm).2) k)
      clear hb hB1 hp hht ht2 k c0
      go_wp2_with fail
      go_ret
      exact ⟨ret_b HE.out.symm, HB1.out⟩
end Go.Proofs.YtnloommafgnanaaGreat
