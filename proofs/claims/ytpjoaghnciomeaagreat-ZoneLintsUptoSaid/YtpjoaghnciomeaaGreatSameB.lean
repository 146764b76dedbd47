/-
  gazetteersame.Texts; the law's sameFound; names told once.
-/
import Derived.Test.YtpjoaghnciomeaaGreatRowed
namespace Go.Proofs.YtpjoaghnciomeaaGreat
open Go.RowKit Go.Shelf Go.WideMaps Go.Proofs.YtpjoaghnciomeaaGreat.nm Go.Proofs.YtpjoaghnciomeaaGreat.od

theorem take_eq_nextT {x y : List ByteArray} {k : Nat} (hx : k < x.length) (hy : k < y.length) (h : x.take k = y.take k) (e : x[k] = y[k]) : x.take (k + 1) = y.take (k + 1) := by
  rw [List.take_succ_eq_append_getElem hx, List.take_succ_eq_append_getElem hy, h, e]

set_option maxRecDepth 100000 in
set_option maxHeartbeats 2000000 in
theorem texts_any (x y : List ByteArray) (hx : x.length ≤ 1000000000000) (v u : Value) (w : World) (hv : StrsR w v x) (hu : StrsR w u y) :
    Calls Tryz.prog 22 #[v, u] w fun e w' => e = .returned (.bool (decide (x = y))) ∧ Below w.heap.size w w' := by
  obtain ⟨a, cap, rfl, -⟩ := id hv
  obtain ⟨a2, cap2, rfl, -⟩ := id hu
  have HV := Lib.hid hv; have HU := Lib.hid hu
  clear hv hu
  by_cases hl : x.length = y.length
  · obtain ⟨m, hm⟩ : ∃ m, m = y.length := ⟨_, rfl⟩
    have HM := Lib.hid hm
    rw [hl, ← hm] at hx ⊢
    have HL := Lib.hid (hl.trans hm.symm)
    clear hl hm
    go_enter Tryz.func22, Tryz.ntmps22
    go_wp2_with fail
    go_loopw [13, 5] (fun kv _ wr => ∃ k : Nat, k ≤ m ∧ kv = .int .i64 (k : Int) ∧ x.take k = y.take k ∧ Below w.heap.size w wr) (fun kv _ _ => m - (intOf kv).toNat)
    case atStart => exact ⟨0, Nat.zero_le _, rfl, rfl, Below.refl _ _⟩
    case round =>
      obtain ⟨k, hk, rfl, hxy, hB⟩ := hrel
      have HB := Lib.hid hB; have HXY := Lib.hid hxy
      clear hxy
      by_cases hkm : k < m
      · have hx2 : k < x.length := by rw [HL.out]; exact hkm
        have hy2 : k < y.length := by rw [← HM.out]; exact hkm
        obtain ⟨a', cap', hv, hr⟩ := HV.out.below hB
        simp only [Value.slice.injEq] at hv
        obtain ⟨rfl, -, rfl⟩ := hv
        obtain ⟨b, off, rfl, hbl, c0⟩ := hr k hx2
        obtain ⟨a', cap', hv, hr2⟩ := HU.out.below hB
        simp only [Value.slice.injEq] at hv
        obtain ⟨rfl, -, rfl⟩ := hv
        obtain ⟨b2, off2, rfl, hbl2, d0⟩ := hr2 k hy2
        obtain ⟨s, hs⟩ : ∃ s, s = x[k] := ⟨_, rfl⟩
        obtain ⟨s2, hs2⟩ : ∃ s, s = y[k] := ⟨_, rfl⟩
        rw [← hs] at c0
        rw [← hs2] at d0
        have e0 := gw_cell c0; have f0 := gw_cell d0
        have HS := Lib.hid hs; have HS2 := Lib.hid hs2
        clear hr hr2 hB hs hs2 c0 d0
        by_cases he : s = s2
        · have q1 : (s.toList == s2.toList) = true := str_eq.2 he
          have q2 : (s.toList != s2.toList) = false := by rw [bne, q1]; rfl
          have hnx := take_eq_nextT hx2 hy2 HXY.out (by rw [← HS.out, ← HS2.out]; exact he)
          have HNX := Lib.hid hnx
          clear hnx he
          go_upto_region 6 with fail
          refine wp_region_gw (by kernel_rfl) (by kernel_rfl) ?_
          repeat (with_reducible refine wpQuiet_step (fun K hK => ?_); go_simp; first | (with_reducible refine hK _ ?_; clear hK K))
          with_reducible refine wpQuiet_nil ?_
          intro W hW
          have hBW : Below wr.heap.size wr W := by obtain ⟨p, rfl⟩ := hW; exact gw_below _ p
          have HBW := Lib.hid (HB.out.trans (hBW.mono HB.out.size))
          clear hW hBW e0 f0
          go_wp2_with fail
          go_roundw
          case rel => exact ⟨k + 1, by omega, by go_num, HNX.out, HBW.out⟩
          case measure => simp [intOf]; omega
        · have q1 : (s.toList == s2.toList) = false := str_ne he
          have q2 : (s.toList != s2.toList) = true := by rw [bne, q1]; rfl
          have hno : decide (x = y) = false := decide_eq_false fun h => he (by rw [HS.out, HS2.out]; subst h; rfl)
          have HNO := Lib.hid hno
          clear hno he
          go_upto_region 6 with fail
          refine wp_region_gw (by kernel_rfl) (by kernel_rfl) ?_
          repeat (with_reducible refine wpQuiet_step (fun K hK => ?_); go_simp; first | (with_reducible refine hK _ ?_; clear hK K))
          with_reducible refine wpQuiet_nil ?_
          intro W hW
          have hBW : Below wr.heap.size wr W := by obtain ⟨p, rfl⟩ := hW; exact gw_below _ p
          have HBW := Lib.hid (HB.out.trans (hBW.mono HB.out.size))
          clear hW hBW e0 f0
          go_wp2_with fail
          go_ret
          exact ⟨ret_b HNO.out.symm, HBW.out⟩
      · obtain rfl : k = m := by omega
        have hyes : decide (x = y) = true := decide_eq_true (by
          have h := HXY.out
          rw [List.take_of_length_le (by rw [HL.out]; exact Nat.le_refl _), List.take_of_length_le (by rw [← HM.out]; exact Nat.le_refl _)] at h
          exact h)
        have HY := Lib.hid hyes
        clear hyes hkm hB
        go_wp2_with fail
        go_ret
        exact ⟨ret_b HY.out.symm, HB.out⟩
  · have hno : decide (x = y) = false := decide_eq_false fun h => hl (by rw [h])
    have hl' : ((x.length : Int) != (y.length : Int)) = true := by rw [bne_iff_ne]; omega
    have HNO := Lib.hid hno
    clear hno hl
    go_enter Tryz.func22, Tryz.ntmps22
    go_wp2_with fail
    go_ret
    exact ⟨ret_b HNO.out.symm, Below.refl _ _⟩

set_option maxRecDepth 100000 in
set_option maxHeartbeats 2000000 in
/-- The same found, told twice. -/
theorem sameFound_any (f : zn.Fnd) (hf : f.recs.length ≤ 1000000000000) (v u : Value) (w : World) (hv : RecsAt w v f.recs) (hu : RecsAt w u f.recs) :
    Calls Tryz.prog 27 #[fndV f v, fndV f u] w fun e w' => e = .returned (.bool true) ∧ Below w.heap.size w w' := by
  obtain ⟨a, cap, rfl, -⟩ := id hv
  obtain ⟨a2, cap2, rfl, -⟩ := id hu
  obtain ⟨m, hm⟩ : ∃ m, m = f.recs.length := ⟨_, rfl⟩
  obtain ⟨w1, hw1⟩ : ∃ X, X = w.alloc (.cells #[.int .i64 f.kind, .string f.owner, .string f.encl, .bool f.wild, .slice a f.recs.length cap] 48) := ⟨_, rfl⟩
  obtain ⟨w2, hw2⟩ : ∃ X, X = w1.alloc (.cells #[.int .i64 f.kind, .string f.owner, .string f.encl, .bool f.wild, .slice a2 f.recs.length cap2] 48) := ⟨_, rfl⟩
  have hB1 : Below w.heap.size w w1 := by rw [hw1]; exact (Below.refl _ w).alloc (Nat.le_refl _) _
  have hs1 : w1.heap.size = w.heap.size + 1 := by rw [hw1]; simp
  have hB2 : Below w.heap.size w w2 := by rw [hw2]; exact hB1.alloc (by omega) _
  have hb1 : w2.heap[w.heap.size]? = some (.cells #[.int .i64 f.kind, .string f.owner, .string f.encl, .bool f.wild, .slice a f.recs.length cap] 48 (0, 0)) := by rw [hw2]; exact heap_alloc_keep (by rw [hw1]; exact heap_new_at rfl) _
  have hb2 : w2.heap[w1.heap.size]? = some (.cells #[.int .i64 f.kind, .string f.owner, .string f.encl, .bool f.wild, .slice a2 f.recs.length cap2] 48 (0, 0)) := by rw [hw2]; exact heap_new_at rfl
  obtain ⟨p0, p1, p2, p3, p4, _, _, _, _, _⟩ := found_facts hb1
  obtain ⟨q0, q1, q2, q3, q4, _, _, _, _, _⟩ := found_facts hb2
  have hrel1 := hv.below hB2
  have hrel2 := hu.below hB2
  rw [hs1] at q0 q1 q2 q3 q4
  have HW1 := Lib.hid hw1; have HW2 := Lib.hid hw2; have HB2 := Lib.hid hB2; have HV := Lib.hid hrel1; have HU := Lib.hid hrel2
  clear hv hu hw1 hw2 hB1 hB2 hb1 hb2 hm hrel1 hrel2
  go_enter Tryz.func27, Tryz.ntmps27
  go_upto_region 1 with fail
  rw [← HW1.out, ← HW2.out]
  go_wp2_with fail
  refine (same_any f.recs f.recs hf _ _ w2 HV.out HU.out).mono ?_
  rintro e w3 ⟨rfl, hB3⟩
  rw [decide_eq_true rfl]
  have HB3 := Lib.hid (HB2.out.trans (hB3.mono HB2.out.size))
  clear hB3
  go_wp2_with fail
  go_ret
  exact ⟨rfl, HB3.out⟩

/-- The names are told once. -/
theorem names_one {apex : ByteArray} {L : List Rec} (hv : zn.Valid apex L) : ∀ (x y : List ByteArray), x.Perm y → x.Pairwise (fun a b => compareI a b ≤ 0) → y.Pairwise (fun a b => compareI a b ≤ 0) →
    (∀ n ∈ x, ∃ r ∈ L, zn.signsB r = false ∧ n ∈ zn.ups (countI apex).toNat (foldS r.owner)) → x = y
  | [], y, hp, _, _, _ => by simpa using hp.symm.eq_nil
  | a :: x, [], hp, _, _, _ => by simpa using hp.eq_nil
  | a :: x, b :: y, hp, hx, hy, hm => by
    rw [List.pairwise_cons] at hx hy
    have hab : a = b := by
      have h1 : b ∈ a :: x := hp.symm.mem_iff.1 (by simp)
      have h2 : a ∈ b :: y := hp.mem_iff.1 (by simp)
      rcases List.mem_cons.1 h1 with h1 | h1
      · exact h1.symm
      · rcases List.mem_cons.1 h2 with h2 | h2
        · exact h2
        · obtain ⟨a1, a2, _⟩ := zn.there_name hv (hm a (by simp))
          obtain ⟨b1, b2, _⟩ := zn.there_name hv (hm b (by simp [h1]))
          have k1 := hx.1 b h1
          have k2 : compareI b a ≤ 0 := hy.1 a h2
          have k3 : 0 ≤ compareI a b := (names_cmp.le ⟨b, b1⟩ ⟨a, a1⟩).1 k2
          have k4 := (compareI_zero a1 b1).1 (by omega)
          rw [a2, b2] at k4
          exact k4
    subst hab
    rw [names_one hv x y (List.Perm.cons_inv hp) hx.2 hy.2 (fun n hn => hm n (by simp [hn]))]
theorem NamesOf.eq {apex : ByteArray} {L : List Rec} (hv : zn.Valid apex L) {N N' : List ByteArray} (h : NamesOf apex L N) (h' : NamesOf apex L N') : N = N' :=
  names_one hv N N' ((List.perm_ext_iff_of_nodup h.1 h'.1).2 fun n => by rw [h.2.1, h'.2.1]) h.2.2 h'.2.2 fun n hn => (h.2.1 n).1 hn
end Go.Proofs.YtpjoaghnciomeaaGreat
