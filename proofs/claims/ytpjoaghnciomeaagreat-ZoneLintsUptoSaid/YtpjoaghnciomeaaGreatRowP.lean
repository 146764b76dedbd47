/-
  The names of a zone, in order; the first is the zone's. No program in sight.
-/
import Derived.Test.YtpjoaghnciomeaaGreatFindP
import Derived.Test.YtpjoaghnciomeaaGreatZoneP
namespace Go.Proofs.YtpjoaghnciomeaaGreat
open Go.RowKit Go.Shelf Go.WideMaps Go.Proofs.YtpjoaghnciomeaaGreat.nm Go.Proofs.YtpjoaghnciomeaaGreat.od

namespace zn
theorem cmpRows_range : ∀ x y : List ByteArray, -1 ≤ cmpRows x y ∧ cmpRows x y ≤ 1
  | [], [] => by simp [cmpRows]
  | [], _ :: _ => by simp [cmpRows]
  | _ :: _, [] => by simp [cmpRows]
  | a :: x, b :: y => by
    rw [cmpRows]
    split
    · exact cmpRows_range x y
    · exact cmp_range a b
theorem compareI_range (a b : ByteArray) : -1 ≤ compareI a b ∧ compareI a b ≤ 1 := by
  unfold compareI
  split
  · exact cmpRows_range _ _
  · omega
theorem cmpRows_prefix : ∀ x y : List ByteArray, cmpRows x (x ++ y) ≤ 0
  | [], [] => by simp [cmpRows]
  | [], _ :: _ => by simp [cmpRows]
  | a :: x, y => by
    rw [List.cons_append, cmpRows, if_pos ((text_zero a a).2 rfl)]
    exact cmpRows_prefix x y

/-- A name that is there: small letters already, at or below the zone's. -/
theorem there_name {apex : ByteArray} {L : List Rec} (hv : Valid apex L) {n : ByteArray} (h : ∃ r ∈ L, signsB r = false ∧ n ∈ ups (countI apex).toNat (foldS r.owner)) :
    checkB n = true ∧ foldS n = n ∧ compareI apex n ≤ 0 ∧ withinB n apex = true := by
  obtain ⟨r, hr, _, hu⟩ := h
  obtain ⟨x, a, hx⟩ := ask_in (hv.each r hr).2.2
  have hle := hx.le
  have hfx := rows_fold hx.q
  have hlx := lowR_len x
  obtain ⟨i, hi, rfl⟩ := List.mem_map.1 hu
  rw [List.mem_range, count_of hfx, count_of hx.apex, Int.toNat_natCast, Int.toNat_natCast, hlx] at hi
  have hn := (tail_row hfx (k := countI (foldS r.owner) - i) (by rw [count_of hfx]; omega) (by rw [count_of hfx]; omega)).2
  rw [count_of hfx, hlx] at hn ⊢
  have hd : x.length - ((x.length : Int) - (i : Int)).toNat = i := by omega
  rw [hd] at hn
  have hc := check_of hn
  have hlow : lowR ((lowR x).drop i) = (lowR x).drop i := by rw [lowR_drop, lowR_lowR]
  have hw := (within_rows hx.q hx.apex).1 (hv.each r hr).2.2
  refine ⟨hc, ?_, ?_, ?_⟩
  · rw [foldS_row hn, hlow, ← rows_nameOf hn]
  · rw [compareI_key hv.ap hc, nameK_rows hn, nameK_rows hx.apex, hlow, ← hw.2]
    have e : (lowR x).drop i = ((lowR x).drop i).take (x.length - a.length - i) ++ (lowR x).drop (x.length - a.length) := by
      have h1 := List.take_append_drop (x.length - a.length - i) ((lowR x).drop i)
      rw [List.drop_drop, show i + (x.length - a.length - i) = x.length - a.length by omega] at h1
      exact h1.symm
    rw [e, List.map_append, List.reverse_append]
    exact cmpRows_prefix _ _
  · rw [within_rows hn hx.apex, hlow, List.length_drop, hlx, List.drop_drop]
    refine ⟨by omega, ?_⟩
    rw [show i + (x.length - i - a.length) = x.length - a.length by omega]
    exact hw.2
theorem names_strict {apex : ByteArray} {L : List Rec} (hv : Valid apex L) {N : List ByteArray} (h : NamesOf apex L N) {k : Nat} (h1 : 1 ≤ k) (hk : k < N.length) : compareI (N[k - 1]'(by omega)) N[k] = -1 := by
  obtain ⟨hnd, hm, hp⟩ := h
  rw [List.pairwise_iff_getElem] at hp
  have h0 := hp (k - 1) k (by omega) hk (by omega)
  obtain ⟨a1, a2, _⟩ := there_name hv ((hm _).1 (List.getElem_mem (show k - 1 < N.length by omega)))
  obtain ⟨b1, b2, _⟩ := there_name hv ((hm _).1 (List.getElem_mem hk))
  have hr := compareI_range (N[k - 1]'(by omega)) N[k]
  have hne : compareI (N[k - 1]'(by omega)) N[k] ≠ 0 := fun e => by
    rw [compareI_zero a1 b1, a2, b2] at e
    exact List.pairwise_iff_getElem.1 hnd (k - 1) k (by omega) hk (by omega) e
  omega
theorem apex_there {apex : ByteArray} {L : List Rec} (hv : Valid apex L) : ∃ r ∈ L, signsB r = false ∧ foldS apex ∈ ups (countI apex).toNat (foldS r.owner) := by
  have h3 := (rules_parts hv.rules).2.2.1
  rw [Ne, soaC_zero] at h3
  obtain ⟨r, h4⟩ := Classical.not_forall.1 h3
  obtain ⟨hr, h5⟩ := Classical.not_imp.1 h4
  have h6 := Classical.not_not.1 h5
  refine ⟨r, hr, by unfold signsB; rw [h6]; rfl, ?_⟩
  obtain ⟨x, a, hx⟩ := ask_in (hv.each r hr).2.2
  rw [count_of hx.apex, Int.toNat_natCast]
  exact (ups_within hx.q hx.apex (Nat.le_refl _) hx.le).2 (hv.each r hr).2.2
theorem names_first {apex : ByteArray} {L : List Rec} (hv : Valid apex L) {N : List ByteArray} (h : NamesOf apex L N) : ∃ h0 : 0 < N.length, equalB N[0] apex = true := by
  obtain ⟨hnd, hm, hp⟩ := h
  have ha : foldS apex ∈ N := (hm _).2 (apex_there hv)
  have h0 : 0 < N.length := List.length_pos_of_mem ha
  refine ⟨h0, ?_⟩
  obtain ⟨a1, a2, a3, _⟩ := there_name hv ((hm _).1 (List.getElem_mem h0))
  obtain ⟨b1, b2, _, _⟩ := there_name hv ((hm _).1 ha)
  rw [equal_fold a1 hv.ap]
  obtain ⟨j, hj, e⟩ := List.getElem_of_mem ha
  rcases Nat.eq_zero_or_pos j with rfl | hj0
  · rw [a2]; exact e
  · rw [List.pairwise_iff_getElem] at hp
    have h1 := hp 0 j h0 hj hj0
    rw [e] at h1
    have h2 : compareI (foldS apex) N[0] = compareI apex N[0] := by
      obtain ⟨a, hra⟩ := rows_check hv.ap
      rw [compareI_key b1 a1, compareI_key hv.ap a1]
      congr 1
      exact (nameK_inj b1 hv.ap).2 b2
    have h3 := (names_cmp.le ⟨N[0], a1⟩ ⟨foldS apex, b1⟩).1 h1
    have h3' : 0 ≤ compareI (foldS apex) N[0] := h3
    have h4 : compareI apex N[0] = 0 := by omega
    exact ((compareI_zero hv.ap a1).1 h4).symm
end zn
end Go.Proofs.YtpjoaghnciomeaaGreat
