/-
  slices.Delete of one record.
-/
import Derived.Test.YtnloommafgnanaaQDelF
import Derived.Deep.RegionLaw
namespace Go.Proofs.Ytnloommafgnanaa
open Go.RowKit Go.Shelf Go.Proofs.Ytnloommafgnanaa.nm Go.Proofs.Ytnloommafgnanaa.od

theorem recsC_drop (l : List Rec) : ∀ (m : Nat), (recsC l).drop (m * 5) = recsC (l.drop m) := by
  induction l with
  | nil => intro m; simp [recsC]
  | cons a t ih =>
    intro m
    cases m with
    | zero => rfl
    | succ m =>
      have e : recsC (a :: t) = .string a.owner :: .int .i64 a.typ :: .int .i64 a.cls :: .int .i64 a.ttl :: .string a.data :: recsC t := rfl
      rw [e, show (m + 1) * 5 = m * 5 + 1 + 1 + 1 + 1 + 1 by omega]
      simp only [List.drop_succ_cons]
      rw [ih m]
theorem recsC_cat (a b : List Rec) : recsC (a ++ b) = recsC a ++ recsC b := by unfold recsC; exact List.flatMap_append
/-- A run of records laid into a row. -/
theorem own_setRun {w : World} {base g n cap k : Nat} {l : List Rec} (h : w.ownsRow base 41 5 (.slice (some ⟨g, 0, none⟩) n cap) n (recsC l)) (m : List Rec) (hk : k + m.length ≤ n) :
    (w.setCells g (k * 5) (recsC m)).ownsRow base 41 5 (.slice (some ⟨g, 0, none⟩) n cap) n (recsC (l.take k ++ m ++ l.drop (k + m.length))) ∧ w.grownBy (w.setCells g (k * 5) (recsC m)) (some g) := by
  have hml : (recsC l).length = n * 5 := h.1
  have hln : l.length = n := by rw [recsC_len] at hml; omega
  have hm5 : (recsC m).length = m.length * 5 := recsC_len m
  rcases h.2 with ⟨h0, _⟩ | ⟨g', cap', cur, hv, hb, hg, hn, hc, hz, hx⟩
  · cases h0
  · simp only [Value.slice.injEq, Option.some.injEq, Addr.mk.injEq, and_true, true_and] at hv
    obtain ⟨rfl, rfl⟩ := hv
    have hnc : n * 5 ≤ cap * 5 := Nat.mul_le_mul_right _ hn
    obtain ⟨cur', h1, h2, h3, h4⟩ := setCells_heap g 41 (recsC m) (k * 5) cur w hg (by rw [hm5, hz]; omega)
    have hcl : cur.toList.length = cap * 5 := by rw [Array.length_toList, hz]
    refine ⟨⟨by rw [recsC_len]; simp; omega, .inr ⟨g, cap, cur', rfl, hb, h1, hn, hc, by rw [h2, hz], ?_⟩⟩, h4⟩
    have e1 : cur.toList.take (k * 5) = recsC (l.take k) := by
      rw [← recsC_take, ← hx, List.take_take, Nat.min_eq_left (by omega)]
    have e2 : (cur.toList.drop (k * 5 + (recsC m).length)).take (n * 5 - (k * 5 + m.length * 5)) = recsC (l.drop (k + m.length)) := by
      rw [← recsC_drop, ← hx, hm5, List.drop_take, Nat.add_mul]
    rw [h3, recsC_cat, recsC_cat, e1]
    rw [List.take_append, List.take_of_length_le (by rw [List.length_append, recsC_len, hm5, List.length_take]; omega), ← e2]
    congr 2
    rw [List.length_append, recsC_len, hm5, List.length_take]
    omega
theorem erase_is (l : List Rec) (k : Nat) (hk : k < l.length) : l.take k ++ l.drop (k + 1) ++ l.drop (k + (l.drop (k + 1)).length) = l.eraseIdx k ++ [l[l.length - 1]'(by omega)] := by
  rw [List.eraseIdx_eq_take_drop_succ]
  congr 1
  rw [List.length_drop, show k + (l.length - (k + 1)) = l.length - 1 by omega]
  exact (List.drop_eq_getElem_cons (by omega)).trans (by rw [List.drop_of_length_le (by omega)])
set_option maxRecDepth 100000 in
set_option maxHeartbeats 4000000 in
theorem delete_any (l : List Rec) (hl : l.length ≤ 1000000000000) (k : Nat) (hk : k < l.length) (base b cap : Nat) (w : World) (hown : w.ownsRow base 41 5 (.slice (some ⟨b, 0, none⟩) l.length cap) l.length (recsC l)) :
    Calls Try.prog 42 #[.slice (some ⟨b, 0, none⟩) l.length cap, .int .i64 (k : Int), .int .i64 ((k + 1 : Nat) : Int)] w fun e w' =>
      e = .returned (.slice (some ⟨b, 0, none⟩) (l.length - 1) cap) ∧ w.grownBy w' (some b) ∧ w'.ownsRow base 41 5 (.slice (some ⟨b, 0, none⟩) (l.length - 1) cap) (l.length - 1) (recsC (l.eraseIdx k)) := by
  obtain ⟨i0_r, hi_r, hz_r, hz1_r, hz2_r⟩ := info_parts info_rec
  have hcap : l.length ≤ cap := by
    rcases hown.2 with ⟨h0, _⟩ | ⟨_, _, _, hv, _, _, hn, _⟩
    · cases h0
    · simp only [Value.slice.injEq, Option.some.injEq, Addr.mk.injEq, and_true, true_and] at hv
      obtain ⟨rfl, rfl⟩ := hv
      exact hn
  obtain ⟨n, hn⟩ : ∃ n, n = l.length := ⟨_, rfl⟩
  obtain ⟨k1, hk1⟩ : ∃ k1, k1 = k + 1 := ⟨_, rfl⟩
  obtain ⟨n1, hn1⟩ : ∃ n1, n1 = n - 1 := ⟨_, rfl⟩
  rw [← hn, ← hk1]
  rw [← hn] at hown hcap hl hk
  have hml : (recsC l).length = n * 5 := hown.1
  have hdl : (l.drop k1).length = n - k1 := by rw [List.length_drop, hn]
  have hm5 : (recsC (l.drop k1)).length = (n - k1) * 5 := by rw [recsC_len, hdl]
  obtain ⟨hset, hgs⟩ := own_setRun (w := w.drew) (show w.drew.ownsRow base 41 5 (.slice (some ⟨b, 0, none⟩) n cap) n (recsC l) from hown) (l.drop k1) (k := k) (by rw [hdl]; omega)
  rw [hk1, erase_is l k (by omega), ← hk1] at hset
  obtain ⟨z, hz⟩ : ∃ z, z = l[l.length - 1]'(by omega) := ⟨_, rfl⟩
  rw [← hz] at hset
  clear hz
  have hnews : ∀ (A : Addr), (k1 < n → A = ⟨b, k1 * 5, none⟩) → ∀ j u, (recsC (l.drop k1))[j]? = some u → w.drew.cell? (A.add j) = some u := fun A hA j u hj => by
    have hjl : j < (n - k1) * 5 := by rw [← hm5]; exact (List.getElem?_eq_some_iff.1 hj).1
    rw [hA (by omega), Addr.add_lit]
    show w.cell? _ = _
    rw [hown.cellAt (k1 * 5 + j) (by have := Nat.mul_le_mul_right 5 (show k1 ≤ n by omega); rw [Nat.sub_mul] at hjl; omega), ← hj, ← recsC_drop, List.getElem?_drop]
  have hspare : ∀ j, j < (recsC (l.drop k1)).length → (w.drew.cell? ⟨b, 0 + k * 5 + j, none⟩).isSome = true ∧ w.drew.frozen? ⟨b, 0 + k * 5 + j, none⟩ = false := fun j hj => by
    rw [hm5] at hj
    have h1 := Nat.mul_le_mul_right 5 (show k1 ≤ n by omega)
    rw [Nat.sub_mul] at hj
    have hlt : k * 5 + j < n * 5 := by omega
    refine ⟨?_, hown.frozenAt _⟩
    show (w.cell? _).isSome = true
    rw [Nat.zero_add, hown.cellAt (k * 5 + j) hlt, List.getElem?_eq_getElem (by rw [hml]; exact hlt)]
    rfl
  have s1 := Lib.hid (show (recsC (l.drop k1)).length = (n - k1) * 5 from hm5)
  have s2 := Lib.hid (recs_one (l.drop k1))
  have HNEWS := Lib.hid hnews; have HSPARE := Lib.hid hspare; have HSET := Lib.hid hset; have HGS := Lib.hid hgs; have HOWN := Lib.hid hown
  have HI := Lib.hid hi_r; have HZ1 := Lib.hid hz1_r
  have HN := Lib.hid hn; have HK1 := Lib.hid hk1; have HN1 := Lib.hid hn1
  have ne1 : ((k : Int) == (k1 : Int)) = false := by rw [beq_eq_false_iff_ne]; omega
  have hk1' : k1 ≤ n := by omega
  have hkk : k < k1 := by omega
  have b1 : (k : Int) ≤ (k1 : Int) := by omega
  have b2 : (k1 : Int) ≤ (n : Int) := by omega
  have b3 : (n : Int) ≤ (cap : Int) := by omega
  have b4 : (k : Int) ≤ (cap : Int) := by omega
  have b5 : (k1 : Int) ≤ (cap : Int) := by omega
  have b6 : (0 : Int) ≤ (k : Int) := by omega
  have b7 : (0 : Int) ≤ (k1 : Int) := by omega
  clear hnews hspare hset hgs hown hi_r hz1_r hz_r hz2_r hml hdl hm5 hn hk1 hn1
  go_enter Try.func42, Try.ntmps42
  go_upto_region 5 with fail
  by_cases hcc : cap = k1
  · have hc2 : (k1 : Int) = (cap : Int) := by omega
    have hkn : ¬ k1 < n := by omega
    have HKN := Lib.hid hkn
    have HCC := Lib.hid hcc
    have hcn : cap ≤ n := by omega
    have s0 := Lib.hid (show (recsC (l.drop k1)).length = 0 * 5 from by have := s1.out; omega)
    clear hcc hkn
    go_region_law (refine step_append_room rfl (.tmp 22) (.tmp 25) 25 rfl 41 i0_r 5 Try.underlying25 HI.out HZ1.out b 0 k cap (by simp [Act.eval, Act.put]) ⟨b, 0, none⟩ 0 0 (recsC (l.drop k1)) (by simp [Act.eval, Act.put]) s0.out (HNEWS.out _ (fun h => absurd h HKN.out)) s2.out (by omega) HSPARE.out ?_)
    obtain rfl : n1 = k := by have := HN1.out; have := HK1.out; have := HCC.out; omega
    obtain ⟨W1, hW1⟩ : ∃ W, W = w.drew.setCells b (n1 * 5) (recsC (l.drop k1)) := ⟨_, rfl⟩
    have hset := HSET.out
    rw [← hW1] at hset ⊢
    obtain ⟨hcl, hos, hgc⟩ := own_clear hset (i := n1) (by have := HN1.out; omega)
    have hgd : w.grownBy w.drew (some b) := ⟨rfl, rfl, rfl, Nat.le_refl _, fun _ _ _ => rfl⟩
    have hgw : w.grownBy (W1.setCells b (n1 * 5) (recsC (List.replicate (n - n1) zeroR))) (some b) := (hgd.trans (by have h := HGS.out; rw [← hW1] at h; exact h)).trans hgc
    have hel : (l.eraseIdx n1 ++ [z]).take n1 = l.eraseIdx n1 := by
      have : (l.eraseIdx n1).length = n1 := by rw [List.length_eraseIdx, if_pos (by have := HN.out; omega)]; have := HN1.out; have := HN.out; omega
      exact (congrArg (fun m => (l.eraseIdx n1 ++ [z]).take m) this.symm).trans List.take_left
    rw [hel] at hos
    have HW1 := Lib.hid hW1
    have c1 : (n1 : Int) ≤ (n : Int) := by have := HN1.out; omega
    have c2 : (0 : Int) ≤ (n1 : Int) := by omega
    have c3 : (n1 : Int) ≤ (cap : Int) := by omega
    have c4 : ¬ (n1 : Int) = (cap : Int) := by have := HN1.out; omega
    have c5 : ¬ cap = n1 := by have := HN1.out; omega
    have c6 : n1 < n := by have := HN1.out; omega
    have HOS := Lib.hid hos; have HGW := Lib.hid hgw
    clear hset hos hgw hgc hgd hW1 hel
    go_wp2_with fail
    go_ret
    have en : n - 1 = n1 := HN1.out.symm
    rw [en]
    exact ⟨rfl, HGW.out, HOS.out⟩
  · have hc2 : ¬ (k1 : Int) = (cap : Int) := by omega
    have hc4 : ((k1 : Int) == (cap : Int)) = false := by rw [beq_eq_false_iff_ne]; omega
    go_region_law (refine step_append_room rfl (.tmp 22) (.tmp 25) 25 rfl 41 i0_r 5 Try.underlying25 HI.out HZ1.out b 0 k cap (by simp [Act.eval, Act.put]) ⟨b, k1 * 5, none⟩ (n - k1) (cap - k1) (recsC (l.drop k1)) (by simp [Act.eval, Act.put]) s1.out (HNEWS.out _ (fun _ => rfl)) s2.out (by omega) HSPARE.out ?_)
    have e : k + (n - k1) = n1 := by have := HN1.out; have := HK1.out; omega
    rw [e]
    obtain ⟨W1, hW1⟩ : ∃ W, W = w.drew.setCells b (k * 5) (recsC (l.drop k1)) := ⟨_, rfl⟩
    have hset := HSET.out
    rw [← hW1] at hset ⊢
    obtain ⟨hcl, hos, hgc⟩ := own_clear hset (i := n1) (by have := HN1.out; omega)
    have hgd : w.grownBy w.drew (some b) := ⟨rfl, rfl, rfl, Nat.le_refl _, fun _ _ _ => rfl⟩
    have hgw : w.grownBy (W1.setCells b (n1 * 5) (recsC (List.replicate (n - n1) zeroR))) (some b) := (hgd.trans (by have h := HGS.out; rw [← hW1] at h; exact h)).trans hgc
    have hel : (l.eraseIdx k ++ [z]).take n1 = l.eraseIdx k := by
      have : (l.eraseIdx k).length = n1 := by rw [List.length_eraseIdx, if_pos (by have := HN.out; omega)]; have := HN1.out; have := HN.out; omega
      exact (congrArg (fun m => (l.eraseIdx k ++ [z]).take m) this.symm).trans List.take_left
    rw [hel] at hos
    have HW1 := Lib.hid hW1
    have c1 : (n1 : Int) ≤ (n : Int) := by have := HN1.out; omega
    have c2 : (0 : Int) ≤ (n1 : Int) := by omega
    have c3 : (n1 : Int) ≤ (cap : Int) := by omega
    have c4 : ¬ (n1 : Int) = (cap : Int) := by have := HN1.out; omega
    have c5 : ¬ cap = n1 := by have := HN1.out; omega
    have c6 : n1 < n := by have := HN1.out; omega
    have HOS := Lib.hid hos; have HGW := Lib.hid hgw
    clear hset hos hgw hgc hgd hW1 hel e
    go_wp2_with fail
    go_ret
    have en : n - 1 = n1 := HN1.out.symm
    rw [en]
    exact ⟨rfl, HGW.out, HOS.out⟩
end Go.Proofs.Ytnloommafgnanaa
